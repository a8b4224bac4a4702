/- Bytes and names: the functions of one byte, and the two tests of a name. How a byte is written and read; numbers in decimal. Numbers below 1000 in decimal: the reference's, and strconv.Itoa. Numbers below 1000 by strconv.Itoa. strconv.Itoa below 1000. Finding a byte, cutting at it, prefixes and suffixes of one byte; names of tags; the number of a tag. The name of a content, the number of a tag, the test of a content. Kinds of items, tags, elements: what the package reads. Numbers, words and lines that a fragment is made of; joining texts: exactly what 'nrm' says. A fragment that is made of numbers is valid. The length of a fragment; the tests of an item; the first error of a fragment. The tests of an item and the first error of a fragment: the program's and the reference's. Writing a fragment: the program's and the reference's. Writing a fragment: items, and whole fragments. -/
import Derived.Test.YtigalfbihapdnaaGreatDoorSm
import Derived.Test.YtigalfbihapdnaaGreatDoorXA
import Derived.IntWalk
set_option linter.unusedSimpArgs false
set_option linter.unusedVariables false
set_option linter.unusedSimpArgs false
set_option linter.unusedVariables false
namespace Go.Av
open Go.Nt
set_option linter.unusedSimpArgs false
set_option maxHeartbeats 4000000
set_option maxRecDepth 100000
abbrev bI (c:UInt8):Int:=(c.toNat:Int)
theorem wu8 {n:Int} (h1:0≤n) (h2:n≤255):IntKind.u8.wrap n=n:=by
 unfold IntKind.wrap
 have e:IntKind.u8.bits=8:=rfl
 simp only [e,IntKind.signed,Bool.false_and,Bool.false_eq_true,if_false]
 omega
def clsI (x:Int):Int:=if x=9∨x=10∨x=13∨x=32 then 2 else if x < 32∨x=127 then 1 else if 48≤x∧x≤57 then 3 else if 97≤x∧x≤122∨65≤x∧x≤90∨128≤x then 4 else 5
theorem c101 (x:Int):G0 164 [.int .u8 x] []=some (.int .i64 (clsI x),[]):=by
 refine contract F164 rfl rfl rfl ?_
 by_cases h1:x=9
 ·subst h1; simp only [F164,go_sem,op,mv,↓reduceIte,Nat.reduceAdd,Nat.reduceEqDiff,Nat.reduceLT,Int.reduceNeg,Int.cast_ofNat_Int,Int.reduceLT,Int.reduceAdd,Int.reduceSub,Int.reduceLE,Int.reduceEq,Int.reduceToNat,Nat.reduceSub,Nat.reduceMul,Nat.reduceLeDiff,clsI,true_or,or_true]
 by_cases h2:x=10
 ·subst h2; simp only [F164,go_sem,op,mv,↓reduceIte,Nat.reduceAdd,Nat.reduceEqDiff,Nat.reduceLT,Int.reduceNeg,Int.cast_ofNat_Int,Int.reduceLT,Int.reduceAdd,Int.reduceSub,Int.reduceLE,Int.reduceEq,Int.reduceToNat,Nat.reduceSub,Nat.reduceMul,Nat.reduceLeDiff,clsI,true_or,or_true]
 by_cases h3:x=13
 ·subst h3; simp only [F164,go_sem,op,mv,↓reduceIte,Nat.reduceAdd,Nat.reduceEqDiff,Nat.reduceLT,Int.reduceNeg,Int.cast_ofNat_Int,Int.reduceLT,Int.reduceAdd,Int.reduceSub,Int.reduceLE,Int.reduceEq,Int.reduceToNat,Nat.reduceSub,Nat.reduceMul,Nat.reduceLeDiff,clsI,true_or,or_true]
 by_cases h4:x=32
 ·subst h4; simp only [F164,go_sem,op,mv,↓reduceIte,Nat.reduceAdd,Nat.reduceEqDiff,Nat.reduceLT,Int.reduceNeg,Int.cast_ofNat_Int,Int.reduceLT,Int.reduceAdd,Int.reduceSub,Int.reduceLE,Int.reduceEq,Int.reduceToNat,Nat.reduceSub,Nat.reduceMul,Nat.reduceLeDiff,clsI,true_or,or_true]
 by_cases h5:x < 32
 ·simp only [F164,go_sem,op,mv,↓reduceIte,Nat.reduceAdd,Nat.reduceEqDiff,Nat.reduceLT,Int.reduceNeg,Int.cast_ofNat_Int,Int.reduceLT,Int.reduceAdd,Int.reduceSub,Int.reduceLE,Int.reduceEq,Int.reduceToNat,Nat.reduceSub,Nat.reduceMul,Nat.reduceLeDiff,clsI,h1,h2,h3,h4,h5,true_or,or_true,or_self]
 by_cases h6:x=127
 ·subst h6; simp only [F164,go_sem,op,mv,↓reduceIte,Nat.reduceAdd,Nat.reduceEqDiff,Nat.reduceLT,Int.reduceNeg,Int.cast_ofNat_Int,Int.reduceLT,Int.reduceAdd,Int.reduceSub,Int.reduceLE,Int.reduceEq,Int.reduceToNat,Nat.reduceSub,Nat.reduceMul,Nat.reduceLeDiff,clsI,true_or,or_true,or_self]
 by_cases a1:48≤x <;> by_cases a2:x≤57 <;> by_cases a3:97≤x <;> by_cases a4:x≤122 <;> by_cases a5:65≤x <;> by_cases a6:x≤90 <;> by_cases a7:128≤x <;> first | (exfalso; omega) | simp only [F164,go_sem,op,mv,↓reduceIte,Nat.reduceAdd,Nat.reduceEqDiff,Nat.reduceLT,Int.reduceNeg,Int.cast_ofNat_Int,Int.reduceLT,Int.reduceAdd,Int.reduceSub,Int.reduceLE,Int.reduceEq,Int.reduceToNat,Nat.reduceSub,Nat.reduceMul,Nat.reduceLeDiff,clsI,h1,h2,h3,h4,h5,h6,a1,a2,a3,a4,a5,a6,a7,true_or,or_true,or_self,or_false,false_or]
/-- 'plain' by numbers -/
def plainI (x:Int):Bool:=if x=92 then false else if x=60 then false else if x=123 then false else if x=9 then false else if x=10 then false else if x=13 then false else !decide (clsI x=1)
theorem plain_I (c:UInt8):plain c=plainI (bI c):=by
 have:=byte_all (fun c=>plain c == plainI (bI c)) (by decide +kernel) c
 simpa using this
theorem ctl_I (c:UInt8):ctl c=decide (clsI (bI c)=1):=by
 have:=byte_all (fun c=>ctl c == decide (clsI (bI c)=1)) (by decide +kernel) c
 simpa using this
theorem c77 (c:UInt8):G0 151 [.int .u8 (bI c)] []=some (.bool (plain c),[]):=by
 refine contract F151 rfl rfl rfl ?_
 rw [plain_I]
 generalize bI c=x
 by_cases h1:x=92
 ·simp only [F151,go_sem,op,mv,↓reduceIte,Nat.reduceAdd,Nat.reduceEqDiff,Nat.reduceLT,Int.reduceNeg,Int.cast_ofNat_Int,Int.reduceLT,Int.reduceAdd,Int.reduceSub,Int.reduceLE,Int.reduceEq,Int.reduceToNat,Nat.reduceSub,Nat.reduceMul,Nat.reduceLeDiff,plainI,h1]
 by_cases h2:x=60
 ·simp only [F151,go_sem,op,mv,↓reduceIte,Nat.reduceAdd,Nat.reduceEqDiff,Nat.reduceLT,Int.reduceNeg,Int.cast_ofNat_Int,Int.reduceLT,Int.reduceAdd,Int.reduceSub,Int.reduceLE,Int.reduceEq,Int.reduceToNat,Nat.reduceSub,Nat.reduceMul,Nat.reduceLeDiff,plainI,h1,h2]
 by_cases h3:x=123
 ·simp only [F151,go_sem,op,mv,↓reduceIte,Nat.reduceAdd,Nat.reduceEqDiff,Nat.reduceLT,Int.reduceNeg,Int.cast_ofNat_Int,Int.reduceLT,Int.reduceAdd,Int.reduceSub,Int.reduceLE,Int.reduceEq,Int.reduceToNat,Nat.reduceSub,Nat.reduceMul,Nat.reduceLeDiff,plainI,h1,h2,h3]
 by_cases h4:x=9
 ·simp only [F151,go_sem,op,mv,↓reduceIte,Nat.reduceAdd,Nat.reduceEqDiff,Nat.reduceLT,Int.reduceNeg,Int.cast_ofNat_Int,Int.reduceLT,Int.reduceAdd,Int.reduceSub,Int.reduceLE,Int.reduceEq,Int.reduceToNat,Nat.reduceSub,Nat.reduceMul,Nat.reduceLeDiff,plainI,h1,h2,h3,h4]
 by_cases h5:x=10
 ·simp only [F151,go_sem,op,mv,↓reduceIte,Nat.reduceAdd,Nat.reduceEqDiff,Nat.reduceLT,Int.reduceNeg,Int.cast_ofNat_Int,Int.reduceLT,Int.reduceAdd,Int.reduceSub,Int.reduceLE,Int.reduceEq,Int.reduceToNat,Nat.reduceSub,Nat.reduceMul,Nat.reduceLeDiff,plainI,h1,h2,h3,h4,h5]
 by_cases h6:x=13
 ·simp only [F151,go_sem,op,mv,↓reduceIte,Nat.reduceAdd,Nat.reduceEqDiff,Nat.reduceLT,Int.reduceNeg,Int.cast_ofNat_Int,Int.reduceLT,Int.reduceAdd,Int.reduceSub,Int.reduceLE,Int.reduceEq,Int.reduceToNat,Nat.reduceSub,Nat.reduceMul,Nat.reduceLeDiff,plainI,h1,h2,h3,h4,h5,h6]
 by_cases h7:clsI x=1
 ·simp only [F151,go_sem,op,mv,↓reduceIte,Nat.reduceAdd,Nat.reduceEqDiff,Nat.reduceLT,Int.reduceNeg,Int.cast_ofNat_Int,Int.reduceLT,Int.reduceAdd,Int.reduceSub,Int.reduceLE,Int.reduceEq,Int.reduceToNat,Nat.reduceSub,Nat.reduceMul,Nat.reduceLeDiff,plainI,h1,h2,h3,h4,h5,h6,c101,h7]
 ·simp only [F151,go_sem,op,mv,↓reduceIte,Nat.reduceAdd,Nat.reduceEqDiff,Nat.reduceLT,Int.reduceNeg,Int.cast_ofNat_Int,Int.reduceLT,Int.reduceAdd,Int.reduceSub,Int.reduceLE,Int.reduceEq,Int.reduceToNat,Nat.reduceSub,Nat.reduceMul,Nat.reduceLeDiff,plainI,h1,h2,h3,h4,h5,h6,c101,h7]
theorem nmB_I (c:UInt8):nmB c=true↔(97≤bI c∧bI c≤122)∨(48≤bI c∧bI c≤57)∨bI c=45:=by
 unfold nmB lowB bI
 simp only [Bool.or_eq_true,Bool.and_eq_true,decide_eq_true_eq]
 omega
theorem lowB_I (c:UInt8):lowB c=true↔(97≤bI c∧bI c≤122):=by
 unfold lowB bI
 simp only [Bool.and_eq_true,decide_eq_true_eq]
 omega
theorem str_at {s:Bs} {i:Nat} (h:i < s.length):∃ c,s[i]?=some c∧s.drop i=c :: s.drop (i+1):=⟨s[i],List.getElem?_eq_getElem h,List.drop_eq_getElem_cons h⟩
theorem isNm_eq (s:Bs):isNm s=(decide (1≤s.length) && decide (s.length≤24) && lowB (s.headD 0) && (s.drop 1).all nmB):=by
 cases s with
 | nil=>rfl
 | cons c r =>
  simp only [isNm,List.length_cons,List.headD_cons,List.drop_succ_cons,List.drop_zero]
  have e1:decide (1≤r.length+1)=true:=decide_eq_true (by omega)
  have e2:decide (r.length+1≤24)=decide (r.length < 24):=by rw [decide_eq_decide]; omega
  rw [e1,e2,Bool.true_and]
theorem l83 (s:Bs) (hs:s.length≤24):∀ (k i:Nat),i+k=s.length→1≤i →
  ((s.drop i).all nmB=true→execX G0 L63_0 (ST [(0,.str s),(3,.int .i64 i),(22,.bool false)] [] [])=some (.ex 0,ST [(0,.str s),(3,.int .i64 s.length),(22,.bool false),(26,.bool false)] [] [])) ∧
  ((s.drop i).all nmB=false→∃ l',execX G0 L63_0 (ST [(0,.str s),(3,.int .i64 i),(22,.bool false)] [] [])=some (.ret,ST l' [] [])∧look .any l' 2=.bool false)
 | 0,i,h1,h2=>by
  have:i=s.length:=by omega
  subst this
  refine ⟨fun _=>?_,fun h=>(by simp at h)⟩
  rw [Y_loop (L:=L63_0) rfl]
  simp only [go_sem,op,mv,↓reduceIte,Nat.reduceAdd,Nat.reduceEqDiff,Nat.reduceLT,Int.reduceNeg,Int.reduceLE,Int.reduceToNat,Int.reduceLT,Nat.reduceLeDiff,Int.lt_irrefl]
 | k+1,i,h1,h2=>by
  have h4:(i:Int) < (s.length:Int):=by omega
  obtain ⟨c,h5,hd⟩:=str_at (s:=s) (i:=i) (by omega)
  have h0:(0:Int)≤(i:Int):=by omega
  have hp:(0:Int) < (i:Int):=by omega
  have hw:IntKind.i64.wrap ((i:Int)+1)=((i+1:Nat):Int):=by rw [w64 (by omega) (by omega)]; rfl
  have ih:=l83 s hs k (i+1) (by omega) (by omega)
  rw [hd,List.all_cons]
  have hI:=nmB_I c
  unfold bI at hI
  cases hc:nmB c with
  | true =>
   rw [Bool.true_and]
   have hI:=hI.1 hc
   have step:execX G0 L63_0 (ST [(0,.str s),(3,.int .i64 i),(22,.bool false)] [] [])=execX G0 L63_0 (ST [(0,.str s),(3,.int .i64 ((i+1:Nat):Int)),(22,.bool false)] [] []):=by
    conv=>lhs; rw [Y_loop (L:=L63_0) rfl]
    rcases hI with ⟨a1,a2⟩ | ⟨a3,a4⟩ | a5
    ·simp only [go_sem,op,mv,↓reduceIte,Nat.reduceAdd,Nat.reduceEqDiff,Nat.reduceLT,Int.reduceNeg,Int.reduceLE,Int.reduceToNat,Int.reduceLT,Nat.reduceLeDiff,h4,h5,h0,hp,hw,a1,a2]
    ·have a1:¬ 97≤(c.toNat:Int):=by omega
     simp only [go_sem,op,mv,↓reduceIte,Nat.reduceAdd,Nat.reduceEqDiff,Nat.reduceLT,Int.reduceNeg,Int.reduceLE,Int.reduceToNat,Int.reduceLT,Nat.reduceLeDiff,h4,h5,h0,hp,hw,a1,a3,a4]
    ·simp only [go_sem,op,mv,↓reduceIte,Nat.reduceAdd,Nat.reduceEqDiff,Nat.reduceLT,Int.reduceNeg,Int.reduceLE,Int.reduceToNat,Int.reduceLT,Nat.reduceLeDiff,h4,h5,h0,hp,hw,a5]
   rw [step]
   exact ih
  | false =>
   rw [Bool.false_and]
   refine ⟨fun h=>(by cases h),fun _=>?_⟩
   have hN:=fun q=>Bool.false_ne_true (hc.symm.trans (hI.2 q))
   have a5:¬ (c.toNat:Int)=45:=fun q=>hN (.inr (.inr q))
   by_cases a1:97≤(c.toNat:Int)
   ·have a2:¬ (c.toNat:Int)≤122:=fun q=>hN (.inl ⟨a1,q⟩)
    have a3:48≤(c.toNat:Int):=by omega
    have a4:¬ (c.toNat:Int)≤57:=by omega
    refine Exists.intro ?_ (And.intro ?_ ?_)
    rotate_left 1
    ·rw [Y_loop (L:=L63_0) rfl]
     simp only [go_sem,op,mv,↓reduceIte,Nat.reduceAdd,Nat.reduceEqDiff,Nat.reduceLT,Int.reduceNeg,Int.reduceLE,Int.reduceToNat,Int.reduceLT,Nat.reduceLeDiff,h4,h5,h0,hp,a1,a2,a3,a4,a5]
     rfl
    ·rfl
   ·by_cases a3:48≤(c.toNat:Int)
    ·have a4:¬ (c.toNat:Int)≤57:=fun q=>hN (.inr (.inl ⟨a3,q⟩))
     refine Exists.intro ?_ (And.intro ?_ ?_)
     rotate_left 1
     ·rw [Y_loop (L:=L63_0) rfl]
      simp only [go_sem,op,mv,↓reduceIte,Nat.reduceAdd,Nat.reduceEqDiff,Nat.reduceLT,Int.reduceNeg,Int.reduceLE,Int.reduceToNat,Int.reduceLT,Nat.reduceLeDiff,h4,h5,h0,hp,a1,a3,a4,a5]
      rfl
     ·rfl
    ·refine Exists.intro ?_ (And.intro ?_ ?_)
     rotate_left 1
     ·rw [Y_loop (L:=L63_0) rfl]
      simp only [go_sem,op,mv,↓reduceIte,Nat.reduceAdd,Nat.reduceEqDiff,Nat.reduceLT,Int.reduceNeg,Int.reduceLE,Int.reduceToNat,Int.reduceLT,Nat.reduceLeDiff,h4,h5,h0,hp,a1,a3,a5]
      rfl
     ·rfl
theorem headI {s:Bs} (h:1≤s.length):s[0]?=some (s.headD 0):=by
 cases s with
 | nil=>simp at h
 | cons c r=>rfl
theorem c83 (s:Bs):G0 63 [.str s] []=some (.bool (isNm s),[]):=by
 refine contract F63 rfl rfl rfl ?_
 rw [isNm_eq]
 by_cases h1:s.length < 1
 ·have h1':(s.length:Int) < 1:=by omega
  have e:decide (1≤s.length)=false:=decide_eq_false (by omega)
  simp only [F63,go_sem,op,mv,↓reduceIte,Nat.reduceAdd,Nat.reduceEqDiff,Nat.reduceLT,Int.reduceNeg,Int.cast_ofNat_Int,Int.reduceLT,Int.reduceAdd,Int.reduceSub,Int.reduceLE,Int.reduceEq,Int.reduceToNat,Nat.reduceSub,Nat.reduceMul,Nat.reduceLeDiff,h1',e]
 have h1':¬ (s.length:Int) < 1:=by omega
 have e1:decide (1≤s.length)=true:=decide_eq_true (by omega)
 by_cases h2:24 < s.length
 ·have h2':(24:Int) < (s.length:Int):=by omega
  have e:decide (s.length≤24)=false:=decide_eq_false (by omega)
  simp only [F63,go_sem,op,mv,↓reduceIte,Nat.reduceAdd,Nat.reduceEqDiff,Nat.reduceLT,Int.reduceNeg,Int.cast_ofNat_Int,Int.reduceLT,Int.reduceAdd,Int.reduceSub,Int.reduceLE,Int.reduceEq,Int.reduceToNat,Nat.reduceSub,Nat.reduceMul,Nat.reduceLeDiff,h1',h2',e1,e]
 have h2':¬ (24:Int) < (s.length:Int):=by omega
 have e2:decide (s.length≤24)=true:=decide_eq_true (by omega)
 have h3:=headI (s:=s) (by omega)
 generalize s.headD 0=c at h3 ⊢
 have hl:=lowB_I c
 unfold bI at hl
 by_cases h4:(c.toNat:Int) < 97
 ·have e:lowB c=false:=by cases h:lowB c with | false=>rfl | true=>have:=hl.1 h; omega
  simp only [F63,go_sem,op,mv,↓reduceIte,Nat.reduceAdd,Nat.reduceEqDiff,Nat.reduceLT,Int.reduceNeg,Int.cast_ofNat_Int,Int.reduceLT,Int.reduceAdd,Int.reduceSub,Int.reduceLE,Int.reduceEq,Int.reduceToNat,Nat.reduceSub,Nat.reduceMul,Nat.reduceLeDiff,h1',h2',h3,h4,e1,e2,e]
 by_cases h5:122 < (c.toNat:Int)
 ·have e:lowB c=false:=by cases h:lowB c with | false=>rfl | true=>have:=hl.1 h; omega
  simp only [F63,go_sem,op,mv,↓reduceIte,Nat.reduceAdd,Nat.reduceEqDiff,Nat.reduceLT,Int.reduceNeg,Int.cast_ofNat_Int,Int.reduceLT,Int.reduceAdd,Int.reduceSub,Int.reduceLE,Int.reduceEq,Int.reduceToNat,Nat.reduceSub,Nat.reduceMul,Nat.reduceLeDiff,h1',h2',h3,h4,h5,e1,e2,e]
 have e:lowB c=true:=hl.2 ⟨by omega,by omega⟩
 obtain ⟨x1,x2⟩:=l83 s (by omega) (s.length - 1) 1 (by omega) (by omega)
 have ec:((1:Nat):Int)=1:=rfl
 rw [ec] at x1 x2
 cases hv:(s.drop 1).all nmB with
 | true=>simp only [F63,go_sem,op,mv,↓reduceIte,Nat.reduceAdd,Nat.reduceEqDiff,Nat.reduceLT,Int.reduceNeg,Int.cast_ofNat_Int,Int.reduceLT,Int.reduceAdd,Int.reduceSub,Int.reduceLE,Int.reduceEq,Int.reduceToNat,Nat.reduceSub,Nat.reduceMul,Nat.reduceLeDiff,h1',h2',h3,h4,h5,e1,e2,e,x1 hv]
 | false =>
  obtain ⟨l',y1,y2⟩:=x2 hv
  simp only [F63,go_sem,op,mv,↓reduceIte,Nat.reduceAdd,Nat.reduceEqDiff,Nat.reduceLT,Int.reduceNeg,Int.cast_ofNat_Int,Int.reduceLT,Int.reduceAdd,Int.reduceSub,Int.reduceLE,Int.reduceEq,Int.reduceToNat,Nat.reduceSub,Nat.reduceMul,Nat.reduceLeDiff,h1',h2',h3,h4,h5,e1,e2,e,y1,y2]
end Go.Av
namespace Go.Av
open Go.Nt
set_option linter.unusedSimpArgs false
set_option maxHeartbeats 4000000
set_option maxRecDepth 100000
theorem bR (x:Int) (r:List (List AV)):bytesOfR ([.int .u8 x] :: r)=(bytesOfR r).map fun t=>UInt8.ofNat x.toNat :: t:=by
 simp only [bytesOfR,byteOf]
 cases bytesOfR r <;> rfl
theorem mks1b (x:Int):mksA 1 [.int .u8 0] 1 [0] [.int .u8 x]=some (.sl .full 1 [[.int .u8 x]]):=rfl
def hexS:Bs:=[48,49,50,51,52,53,54,55,56,57,97,98,99,100,101,102]
theorem hexS_at {n:Nat} (h:n < 16):hexS[n]?=some (hexd n):=by
 have:∀ n:Fin 16,hexS[n.1]?=some (hexd n.1):=by decide
 exact this ⟨n,h⟩
theorem c104 (c:UInt8):G0 169 [.int .u8 (bI c)] []=some (.tup [.int .u8 (match hexv c with | some n=>(n:Int) | none=>0),.bool (hexv c).isSome],[]):=by
 refine contract F169 rfl rfl rfl ?_
 have hb:=c.toNat_lt
 unfold hexv
 by_cases h1:48≤bI c
 ·by_cases h2:bI c≤57
  ·have e:IntKind.u8.wrap (bI c - 48)=((c.toNat - 48:Nat):Int):=by rw [wu8 (by omega) (by unfold bI; omega)]; unfold bI at h1 ⊢; omega
   rw [if_pos (by unfold bI at h1 h2; omega)]
   simp only [F169,go_sem,op,mv,↓reduceIte,Nat.reduceAdd,Nat.reduceEqDiff,Nat.reduceLT,h1,h2,e,Option.isSome_some]
  ·by_cases h3:97≤bI c
   ·by_cases h4:bI c≤102
    ·have e:IntKind.u8.wrap (bI c - 97)=bI c - 97:=wu8 (by omega) (by omega)
     have e2:IntKind.u8.wrap (bI c - 97+10)=((c.toNat - 87:Nat):Int):=by rw [wu8 (by omega) (by omega)]; unfold bI at h3 ⊢; omega
     rw [if_neg (by unfold bI at h2; omega),if_pos (by unfold bI at h3 h4; omega)]
     simp only [F169,go_sem,op,mv,↓reduceIte,Nat.reduceAdd,Nat.reduceEqDiff,Nat.reduceLT,h1,h2,h3,h4,e,e2,Option.isSome_some]
    ·rw [if_neg (by unfold bI at h2; omega),if_neg (by unfold bI at h4; omega)]
     simp only [F169,go_sem,op,mv,↓reduceIte,Nat.reduceAdd,Nat.reduceEqDiff,Nat.reduceLT,h1,h2,h3,h4,Option.isSome_none]
   ·rw [if_neg (by unfold bI at h2; omega),if_neg (by unfold bI at h3; omega)]
    simp only [F169,go_sem,op,mv,↓reduceIte,Nat.reduceAdd,Nat.reduceEqDiff,Nat.reduceLT,h1,h2,h3,Option.isSome_none]
 ·have h3:¬ 97≤bI c:=by omega
  rw [if_neg (by unfold bI at h1; omega),if_neg (by unfold bI at h3; omega)]
  simp only [F169,go_sem,op,mv,↓reduceIte,Nat.reduceAdd,Nat.reduceEqDiff,Nat.reduceLT,h1,h3,Option.isSome_none]
theorem orI (a b:Nat) (ha:a < 16) (hb:b < 16):((((a:Int) * 16 % 256).toNat ||| ((b:Int) % 256).toNat:Nat):Int)=((a * 16+b:Nat):Int):=by
 have:∀ (a b:Fin 16),((((a.1:Int) * 16 % 256).toNat ||| ((b.1:Int) % 256).toNat:Nat):Int)=((a.1 * 16+b.1:Nat):Int):=by decide +kernel
 exact this ⟨a,ha⟩ ⟨b,hb⟩
theorem c80 (r:Bs) (hr:r.length≤1000000):∃ (x n:Int) (b:Bool),G0 148 [.str (92 :: r)] []=some (.tup [.int .u8 x,.int .i64 n,.bool b],[])∧(∀ c m,rdE r=some (c,m)→x=bI c∧n=(m:Int)∧b=true)∧(rdE r=none→b=false):=by
 cases r with
 | nil =>
  refine ⟨0,0,false,?_,fun c m h=>(by cases h),fun _=>rfl⟩
  refine contract F148 rfl rfl rfl ?_
  simp only [F148,go_sem,op,mv,↓reduceIte,Nat.reduceAdd,Nat.reduceEqDiff,Nat.reduceLT,Int.reduceNeg,Int.cast_ofNat_Int,Int.reduceLT,Int.reduceAdd,Int.reduceSub,Int.reduceLE,Int.reduceEq,Int.reduceToNat,Nat.reduceSub,Nat.reduceMul,Nat.reduceLeDiff]
 | cons d r =>
  have hl2:¬ (((r.length+1+1:Nat):Nat):Int) < 2:=by omega
  have g1:(92 :: d :: r)[1]?=some d:=rfl
  have key:∀ k:UInt8,bI d=(k.toNat:Int)→d=k:=fun k h=>by
   rw [← UInt8.toNat_inj]
   unfold bI at h
   omega
  by_cases h1:d=92
  ·subst h1
   refine ⟨92,2,true,?_,fun c m h=>?_,fun h=>by cases h⟩
   ·refine contract F148 rfl rfl rfl ?_
    simp only [F148,go_sem,op,mv,↓reduceIte,Nat.reduceAdd,Nat.reduceEqDiff,Nat.reduceLT,Int.reduceNeg,Int.cast_ofNat_Int,Int.reduceLT,Int.reduceAdd,Int.reduceSub,Int.reduceLE,Int.reduceEq,Int.reduceToNat,Nat.reduceSub,Nat.reduceMul,Nat.reduceLeDiff,hl2,g1]
    rfl
   ·cases h; exact ⟨rfl,rfl,rfl⟩
  by_cases h2:d=60
  ·subst h2
   refine ⟨60,2,true,?_,fun c m h=>?_,fun h=>by cases h⟩
   ·refine contract F148 rfl rfl rfl ?_
    simp only [F148,go_sem,op,mv,↓reduceIte,Nat.reduceAdd,Nat.reduceEqDiff,Nat.reduceLT,Int.reduceNeg,Int.cast_ofNat_Int,Int.reduceLT,Int.reduceAdd,Int.reduceSub,Int.reduceLE,Int.reduceEq,Int.reduceToNat,Nat.reduceSub,Nat.reduceMul,Nat.reduceLeDiff,hl2,g1]
    rfl
   ·cases h; exact ⟨rfl,rfl,rfl⟩
  by_cases h3:d=123
  ·subst h3
   refine ⟨123,2,true,?_,fun c m h=>?_,fun h=>by cases h⟩
   ·refine contract F148 rfl rfl rfl ?_
    simp only [F148,go_sem,op,mv,↓reduceIte,Nat.reduceAdd,Nat.reduceEqDiff,Nat.reduceLT,Int.reduceNeg,Int.cast_ofNat_Int,Int.reduceLT,Int.reduceAdd,Int.reduceSub,Int.reduceLE,Int.reduceEq,Int.reduceToNat,Nat.reduceSub,Nat.reduceMul,Nat.reduceLeDiff,hl2,g1]
    rfl
   ·cases h; exact ⟨rfl,rfl,rfl⟩
  by_cases h4:d=110
  ·subst h4
   refine ⟨10,2,true,?_,fun c m h=>?_,fun h=>by cases h⟩
   ·refine contract F148 rfl rfl rfl ?_
    simp only [F148,go_sem,op,mv,↓reduceIte,Nat.reduceAdd,Nat.reduceEqDiff,Nat.reduceLT,Int.reduceNeg,Int.cast_ofNat_Int,Int.reduceLT,Int.reduceAdd,Int.reduceSub,Int.reduceLE,Int.reduceEq,Int.reduceToNat,Nat.reduceSub,Nat.reduceMul,Nat.reduceLeDiff,hl2,g1]
    rfl
   ·cases h; exact ⟨rfl,rfl,rfl⟩
  by_cases h5:d=116
  ·subst h5
   refine ⟨9,2,true,?_,fun c m h=>?_,fun h=>by cases h⟩
   ·refine contract F148 rfl rfl rfl ?_
    simp only [F148,go_sem,op,mv,↓reduceIte,Nat.reduceAdd,Nat.reduceEqDiff,Nat.reduceLT,Int.reduceNeg,Int.cast_ofNat_Int,Int.reduceLT,Int.reduceAdd,Int.reduceSub,Int.reduceLE,Int.reduceEq,Int.reduceToNat,Nat.reduceSub,Nat.reduceMul,Nat.reduceLeDiff,hl2,g1]
    rfl
   ·cases h; exact ⟨rfl,rfl,rfl⟩
  have a1:¬ bI d=92:=fun q=>h1 (key 92 q)
  have a2:¬ bI d=60:=fun q=>h2 (key 60 q)
  have a3:¬ bI d=123:=fun q=>h3 (key 123 q)
  have a4:¬ bI d=110:=fun q=>h4 (key 110 q)
  have a5:¬ bI d=116:=fun q=>h5 (key 116 q)
  by_cases h6:d=120
  ·subst h6
   match r,hr with
   | [],_ =>
    refine ⟨0,0,false,?_,fun c m h=>?_,fun h=>rfl⟩
    ·refine contract F148 rfl rfl rfl ?_
     simp only [F148,go_sem,op,mv,↓reduceIte,Nat.reduceAdd,Nat.reduceEqDiff,Nat.reduceLT,Int.reduceNeg,Int.cast_ofNat_Int,Int.reduceLT,Int.reduceAdd,Int.reduceSub,Int.reduceLE,Int.reduceEq,Int.reduceToNat,Nat.reduceSub,Nat.reduceMul,Nat.reduceLeDiff,g1]
     rfl
    ·cases h
   | [h],_ =>
    refine ⟨0,0,false,?_,fun c m h=>?_,fun h=>rfl⟩
    ·refine contract F148 rfl rfl rfl ?_
     simp only [F148,go_sem,op,mv,↓reduceIte,Nat.reduceAdd,Nat.reduceEqDiff,Nat.reduceLT,Int.reduceNeg,Int.cast_ofNat_Int,Int.reduceLT,Int.reduceAdd,Int.reduceSub,Int.reduceLE,Int.reduceEq,Int.reduceToNat,Nat.reduceSub,Nat.reduceMul,Nat.reduceLeDiff,g1]
     rfl
    ·cases h
   | h :: l :: r,hr =>
    have hl4:¬ (((r.length+1+1+1+1:Nat):Nat):Int) < 4:=by omega
    have hl2':¬ (((r.length+1+1+1+1:Nat):Nat):Int) < 2:=by omega
    have g2:(92 :: 120 :: h :: l :: r)[2]?=some h:=rfl
    have g3:(92 :: 120 :: h :: l :: r)[3]?=some l:=rfl
    have c1:=c104 h
    have c2:=c104 l
    have er:rdE (120 :: h :: l :: r)=(match hexv h,hexv l with
     | some a,some b=>if UInt8.ofNat (a * 16+b)=13∨ctl (UInt8.ofNat (a * 16+b))=true then some (UInt8.ofNat (a * 16+b),4) else none
     | _,_=>none):=rfl
    cases hh:hexv h with
    | none =>
     rw [hh] at c1 er
     refine Exists.intro ?_ (Exists.intro 4 (Exists.intro false ⟨?_,fun c m h=>(by rw [er] at h; cases h),fun h=>rfl⟩))
     rotate_left 1
     refine contract F148 rfl rfl rfl ?_
     simp only [F148,go_sem,op,mv,↓reduceIte,Nat.reduceAdd,Nat.reduceEqDiff,Nat.reduceLT,Int.reduceNeg,Int.cast_ofNat_Int,Int.reduceLT,Int.reduceAdd,Int.reduceSub,Int.reduceLE,Int.reduceEq,Int.reduceToNat,Nat.reduceSub,Nat.reduceMul,Nat.reduceLeDiff,g1,g2,g3,hl4,hl2',c1,c2,Option.isSome_none]
     rfl
    | some a =>
     obtain ⟨ha,_⟩:=hexv_lt hh
     cases hl:hexv l with
     | none =>
      rw [hh] at c1 er
      rw [hl] at c2 er
      refine Exists.intro ?_ (Exists.intro 4 (Exists.intro false ⟨?_,fun c m h=>(by rw [er] at h; cases h),fun h=>rfl⟩))
      rotate_left 1
      refine contract F148 rfl rfl rfl ?_
      simp only [F148,go_sem,op,mv,↓reduceIte,Nat.reduceAdd,Nat.reduceEqDiff,Nat.reduceLT,Int.reduceNeg,Int.cast_ofNat_Int,Int.reduceLT,Int.reduceAdd,Int.reduceSub,Int.reduceLE,Int.reduceEq,Int.reduceToNat,Nat.reduceSub,Nat.reduceMul,Nat.reduceLeDiff,g1,g2,g3,hl4,hl2',c1,c2,Option.isSome_none,Option.isSome_some]
      rfl
     | some b =>
      obtain ⟨hb,_⟩:=hexv_lt hl
      rw [hh] at c1 er
      rw [hl] at c2 er
      simp only [] at er
      have q1:IntKind.u8.wrap ((a:Int) * 2 ^ (min 4 8))=(a:Int) * 16:=by
       have e:(2:Int) ^ (min 4 8)=16:=rfl
       rw [e,wu8 (by omega) (by omega)]
      have n120:((UInt8.toNat 120:Nat):Int)=120:=rfl
      have q2:IntKind.u8.wrap (((((a:Int) * 16) % 2 ^ 8).toNat ||| ((b:Int) % 2 ^ 8).toNat:Nat):Int)=bI (UInt8.ofNat (a * 16+b)):=by
       have e:(2:Int) ^ 8=256:=rfl
       rw [e,orI a b ha hb,wu8 (by omega) (by omega)]
       unfold bI
       rw [ofN a b ha hb]
      generalize UInt8.ofNat (a * 16+b)=v at q2 er
      have hc:=ctl_I v
      have q3:bI v=13↔v=13:=by unfold bI; rw [← UInt8.toNat_inj]; show _↔v.toNat=13; omega
      by_cases w1:v=13
      ·have w1':bI v=13:=q3.2 w1
       rw [if_pos (.inl w1)] at er
       refine ⟨bI v,4,true,?_,fun c m h=>?_,fun h=>(by rw [er] at h; cases h)⟩
       ·refine contract F148 rfl rfl rfl ?_
        simp only [F148,go_sem,op,mv,↓reduceIte,Nat.reduceAdd,Nat.reduceEqDiff,Nat.reduceLT,Int.reduceNeg,Int.cast_ofNat_Int,Int.reduceLT,Int.reduceAdd,Int.reduceSub,Int.reduceLE,Int.reduceEq,Int.reduceToNat,Nat.reduceSub,Nat.reduceMul,Nat.reduceLeDiff,g1,g2,g3,hl4,hl2',c1,c2,Option.isSome_some,n120,q1,q2,w1']
       ·rw [er] at h; cases h; exact ⟨rfl,rfl,rfl⟩
      ·have w1':¬ bI v=13:=fun q=>w1 (q3.1 q)
       cases w2:ctl v with
       | true =>
        rw [w2] at hc
        have w3:clsI (bI v)=1:=of_decide_eq_true hc.symm
        rw [if_pos (.inr w2)] at er
        refine ⟨bI v,4,true,?_,fun c m h=>?_,fun h=>(by rw [er] at h; cases h)⟩
        ·refine contract F148 rfl rfl rfl ?_
         simp only [F148,go_sem,op,mv,↓reduceIte,Nat.reduceAdd,Nat.reduceEqDiff,Nat.reduceLT,Int.reduceNeg,Int.cast_ofNat_Int,Int.reduceLT,Int.reduceAdd,Int.reduceSub,Int.reduceLE,Int.reduceEq,Int.reduceToNat,Nat.reduceSub,Nat.reduceMul,Nat.reduceLeDiff,g1,g2,g3,hl4,hl2',c1,c2,Option.isSome_some,n120,q1,q2,w1',c101,w3]
        ·rw [er] at h; cases h; exact ⟨rfl,rfl,rfl⟩
       | false =>
        rw [w2] at hc
        have w3:¬ clsI (bI v)=1:=of_decide_eq_false hc.symm
        rw [if_neg (by rintro (q | q); exact w1 q; rw [w2] at q; cases q)] at er
        refine ⟨bI v,4,false,?_,fun c m h=>(by rw [er] at h; cases h),fun h=>rfl⟩
        refine contract F148 rfl rfl rfl ?_
        simp only [F148,go_sem,op,mv,↓reduceIte,Nat.reduceAdd,Nat.reduceEqDiff,Nat.reduceLT,Int.reduceNeg,Int.cast_ofNat_Int,Int.reduceLT,Int.reduceAdd,Int.reduceSub,Int.reduceLE,Int.reduceEq,Int.reduceToNat,Nat.reduceSub,Nat.reduceMul,Nat.reduceLeDiff,g1,g2,g3,hl4,hl2',c1,c2,Option.isSome_some,n120,q1,q2,w1',c101,w3]
  ·have a6:¬ bI d=120:=fun q=>h6 (key 120 q)
   have er:rdE (d :: r)=none:=by
    simp only [rdE]
    rw [if_neg (by rintro (q | q | q); exact h1 q; exact h2 q; exact h3 q),if_neg h4,if_neg h5,if_neg h6]
   refine ⟨0,0,false,?_,fun c m h=>(by rw [er] at h; cases h),fun h=>rfl⟩
   refine contract F148 rfl rfl rfl ?_
   simp only [F148,go_sem,op,mv,↓reduceIte,Nat.reduceAdd,Nat.reduceEqDiff,Nat.reduceLT,Int.reduceNeg,Int.cast_ofNat_Int,Int.reduceLT,Int.reduceAdd,Int.reduceSub,Int.reduceLE,Int.reduceEq,Int.reduceToNat,Nat.reduceSub,Nat.reduceMul,Nat.reduceLeDiff,hl2,g1,a1,a2,a3,a4,a5,a6]
end Go.Av
namespace Go.Av
open Go.Nt
set_option linter.unusedSimpArgs false
set_option maxHeartbeats 4000000
set_option maxRecDepth 100000
/-! strconv.Itoa -/
theorem wu64 {n:Int} (h1:0≤n) (h2:n≤1000000):IntKind.u64.wrap n=n:=by
 unfold IntKind.wrap
 have e:IntKind.u64.bits=64:=rfl
 simp only [e,IntKind.signed,Bool.false_and,Bool.false_eq_true,if_false]
 omega
theorem wu32 {n:Int} (h1:0≤n) (h2:n≤1000000):IntKind.u32.wrap n=n:=by
 unfold IntKind.wrap
 have e:IntKind.u32.bits=32:=rfl
 simp only [e,IntKind.signed,Bool.false_and,Bool.false_eq_true,if_false]
 omega
theorem c138 (b:Bool):G0 189 [.bool b] []=some (.int .i64 (if b then 1 else 0),[]):=by
 refine contract F189 rfl rfl rfl ?_
 cases b with
 | true=>simp only [F189,go_sem,op,mv,↓reduceIte,Nat.reduceAdd,Nat.reduceEqDiff,Nat.reduceLT]
 | false=>simp only [F189,go_sem,op,mv,↓reduceIte,Nat.reduceAdd,Nat.reduceEqDiff,Nat.reduceLT]
theorem c136 (n:Int) (h0:0≤n) (h1:n≤64):G0 187 [.int .i64 n] []=some (.int .i64 (n * 78913 / 262144),[]):=by
 refine contract F187 rfl rfl rfl ?_
 have w1:IntKind.i64.wrap (n * 78913)=n * 78913:=w64 (by omega) (by omega)
 have e:(n * 78913).fdiv (2 ^ (min 18 64))=n * 78913 / 262144:=by
  have:(2:Int) ^ (min 18 64)=262144:=rfl
  rw [this,Int.fdiv_eq_ediv_of_nonneg _ (by omega)]
 simp only [F187,go_sem,op,mv,↓reduceIte,Nat.reduceAdd,Nat.reduceEqDiff,Nat.reduceLT,Int.reduceNeg,Int.reduceLE,Int.reduceToNat,Int.reduceLT,Nat.reduceLeDiff,w1,e]
end Go.Av
namespace Go.Av
open Go.Nt
set_option linter.unusedSimpArgs false
set_option maxHeartbeats 8000000
set_option maxRecDepth 100000
def lenT:Bs:=[0,1,2,2,3,3,3,3,4,4,4,4,4,4,4,4,5,5,5,5,5,5,5,5,5,5,5,5,5,5,5,5,6,6,6,6,6,6,6,6,6,6,6,6,6,6,6,6,6,6,6,6,6,6,6,6,6,6,6,6,6,6,6,6,7,7,7,7,7,7,7,7,7,7,7,7,7,7,7,7,7,7,7,7,7,7,7,7,7,7,7,7,7,7,7,7,7,7,7,7,7,7,7,7,7,7,7,7,7,7,7,7,7,7,7,7,7,7,7,7,7,7,7,7,7,7,7,7,8,8,8,8,8,8,8,8,8,8,8,8,8,8,8,8,8,8,8,8,8,8,8,8,8,8,8,8,8,8,8,8,8,8,8,8,8,8,8,8,8,8,8,8,8,8,8,8,8,8,8,8,8,8,8,8,8,8,8,8,8,8,8,8,8,8,8,8,8,8,8,8,8,8,8,8,8,8,8,8,8,8,8,8,8,8,8,8,8,8,8,8,8,8,8,8,8,8,8,8,8,8,8,8,8,8,8,8,8,8,8,8,8,8,8,8,8,8,8,8,8,8,8,8,8,8,8,8]
def digS:Bs:=[48,49,50,51,52,53,54,55,56,57,97,98,99,100,101,102,103,104,105,106,107,108,109,110,111,112,113,114,115,116,117,118,119,120,121,122]
def smS:Bs:=[48,48,48,49,48,50,48,51,48,52,48,53,48,54,48,55,48,56,48,57,49,48,49,49,49,50,49,51,49,52,49,53,49,54,49,55,49,56,49,57,50,48,50,49,50,50,50,51,50,52,50,53,50,54,50,55,50,56,50,57,51,48,51,49,51,50,51,51,51,52,51,53,51,54,51,55,51,56,51,57,52,48,52,49,52,50,52,51,52,52,52,53,52,54,52,55,52,56,52,57,53,48,53,49,53,50,53,51,53,52,53,53,53,54,53,55,53,56,53,57,54,48,54,49,54,50,54,51,54,52,54,53,54,54,54,55,54,56,54,57,55,48,55,49,55,50,55,51,55,52,55,53,55,54,55,55,55,56,55,57,56,48,56,49,56,50,56,51,56,52,56,53,56,54,56,55,56,56,56,57,57,48,57,49,57,50,57,51,57,52,57,53,57,54,57,55,57,56,57,57]
theorem lenT_a {n:Nat} (h1:64≤n) (h2:n < 128):lenT[n]?=some 7:=by
 have:∀ n:Fin 128,64≤n.1→lenT[n.1]?=some 7:=by decide +kernel
 exact this ⟨n,h2⟩ h1
theorem lenT_b {n:Nat} (h1:128≤n) (h2:n < 256):lenT[n]?=some 8:=by
 have:∀ n:Fin 256,128≤n.1→lenT[n.1]?=some 8:=by decide +kernel
 exact this ⟨n,h2⟩ h1
theorem lenT_c {n:Nat} (h1:2≤n) (h2:n < 4):lenT[n]?=some 2:=by
 have:∀ n:Fin 4,2≤n.1→lenT[n.1]?=some 2:=by decide +kernel
 exact this ⟨n,h2⟩ h1
theorem lnD:digS.length=36:=by decide +kernel
theorem lnS:smS.length=200:=by decide +kernel
theorem digS_t {n:Nat} (h:n < 10):(digS.take (n+1)).drop n=Nt.dec n:=by
 have:∀ n:Fin 10,(digS.take (n.1+1)).drop n.1=Nt.dec n.1:=by decide +kernel
 exact this ⟨n,h⟩
theorem smS_t {n:Nat} (h1:10≤n) (h:n < 100):(smS.take (n * 2+2)).drop (n * 2)=Nt.dec n:=by
 have:∀ n:Fin 100,10≤n.1→(smS.take (n.1 * 2+2)).drop (n.1 * 2)=Nt.dec n.1:=by decide +kernel
 exact this ⟨n,h⟩ h1
theorem smS_0 {n:Nat} (h:n < 100):smS[n * 2]?=some (dig (n / 10)):=by
 have:∀ n:Fin 100,smS[n.1 * 2]?=some (dig (n.1 / 10)):=by decide +kernel
 exact this ⟨n,h⟩
theorem smS_1 {n:Nat} (h:n < 100):smS[n * 2+1]?=some (dig (n % 10)):=by
 have:∀ n:Fin 100,smS[n.1 * 2+1]?=some (dig (n.1 % 10)):=by decide +kernel
 exact this ⟨n,h⟩
theorem c137 (n:Nat) (h1:100≤n) (h2:n≤999):G0 188 [.int .u64 n] []=some (.int .i64 (if n < 128 then 7 else if n < 256 then 8 else if n < 512 then 9 else 10),[]):=by
 refine contract F188 rfl rfl rfl ?_
 have a1:¬ (4294967296:Int)≤(n:Int):=by omega
 have a2:¬ (65536:Int)≤(n:Int):=by omega
 by_cases h3:n < 256
 ·have a3:¬ (256:Int)≤(n:Int):=by omega
  have w:IntKind.u8.wrap (n:Int)=(n:Int):=wu8 (by omega) (by omega)
  have a4:(0:Int)≤(n:Int):=by omega
  by_cases h4:n < 128
  ·have q:=lenT_a (n:=n) (by omega) h4
   simp only [lenT] at q
   rw [if_pos h4]
   simp only [F188,go_sem,op,mv,↓reduceIte,Nat.reduceAdd,Nat.reduceEqDiff,Nat.reduceLT,Int.reduceNeg,Int.cast_ofNat_Int,Int.reduceLT,Int.reduceAdd,Int.reduceSub,Int.reduceLE,Int.reduceEq,Int.reduceToNat,Nat.reduceSub,Nat.reduceMul,Nat.reduceLeDiff,a1,a2,a3,w,a4,q]
   rfl
  ·have q:=lenT_b (n:=n) (by omega) h3
   simp only [lenT] at q
   rw [if_neg h4,if_pos h3]
   simp only [F188,go_sem,op,mv,↓reduceIte,Nat.reduceAdd,Nat.reduceEqDiff,Nat.reduceLT,Int.reduceNeg,Int.cast_ofNat_Int,Int.reduceLT,Int.reduceAdd,Int.reduceSub,Int.reduceLE,Int.reduceEq,Int.reduceToNat,Nat.reduceSub,Nat.reduceMul,Nat.reduceLeDiff,a1,a2,a3,w,a4,q]
   rfl
 ·have a3:(256:Int)≤(n:Int):=by omega
  have e:(n:Int).fdiv (2 ^ (min 8 64))=((n / 256:Nat):Int):=by
   have:(2:Int) ^ (min 8 64)=256:=rfl
   rw [this,Int.fdiv_eq_ediv_of_nonneg _ (by omega)]
   omega
  have w:IntKind.u8.wrap ((n / 256:Nat):Int)=((n / 256:Nat):Int):=wu8 (by omega) (by omega)
  have a4:(0:Int)≤((n / 256:Nat):Int):=by omega
  rw [if_neg (by omega),if_neg h3]
  by_cases h4:n < 512
  ·have h5:n / 256=1:=by omega
   have q:lenT[1]?=some 1:=rfl
   simp only [lenT] at q
   rw [if_pos h4]
   rw [h5] at e w a4
   simp only [F188,go_sem,op,mv,↓reduceIte,Nat.reduceAdd,Nat.reduceEqDiff,Nat.reduceLT,Int.reduceNeg,Int.cast_ofNat_Int,Int.reduceLT,Int.reduceAdd,Int.reduceSub,Int.reduceLE,Int.reduceEq,Int.reduceToNat,Nat.reduceSub,Nat.reduceMul,Nat.reduceLeDiff,a1,a2,a3,e,w,a4,q]
   rfl
  ·have q:=lenT_c (n:=n / 256) (by omega) (by omega)
   simp only [lenT] at q
   rw [if_neg h4]
   simp only [F188,go_sem,op,mv,↓reduceIte,Nat.reduceAdd,Nat.reduceEqDiff,Nat.reduceLT,Int.reduceNeg,Int.cast_ofNat_Int,Int.reduceLT,Int.reduceAdd,Int.reduceSub,Int.reduceLE,Int.reduceEq,Int.reduceToNat,Nat.reduceSub,Nat.reduceMul,Nat.reduceLeDiff,a1,a2,a3,e,w,a4,q]
   rfl
theorem c123 (n:Nat) (h1:100≤n) (h2:n≤999):G0 183 [.int .u64 n] []=some (.int .i64 3,[]):=by
 refine contract F183 rfl rfl rfl ?_
 by_cases h3:n < 512
 ·have a1:(100:Int)≤(n:Int):=by omega
  have e:∃ L:Int,7≤L∧L≤9∧(if n < 128 then (7:Int) else if n < 256 then 8 else if n < 512 then 9 else 10)=L:=⟨_,by split <;> (try split) <;> (try split) <;> omega,by split <;> (try split) <;> (try split) <;> omega,rfl⟩
  obtain ⟨L,l1,l2,e⟩:=e
  have c1:=c137 n h1 h2
  rw [e] at c1
  have c2:=c136 L (by omega) (by omega)
  have e2:L * 78913 / 262144=2:=by omega
  rw [e2] at c2
  simp only [F183,go_sem,op,mv,↓reduceIte,Nat.reduceAdd,Nat.reduceEqDiff,Nat.reduceLT,Int.reduceNeg,Int.cast_ofNat_Int,Int.reduceLT,Int.reduceAdd,Int.reduceSub,Int.reduceLE,Int.reduceEq,Int.reduceToNat,Nat.reduceSub,Nat.reduceMul,Nat.reduceLeDiff,c1,c2,a1,c138]
 ·have a1:¬ (1000:Int)≤(n:Int):=by omega
  have c1:=c137 n h1 h2
  rw [if_neg (by omega),if_neg (by omega),if_neg h3] at c1
  have c2:=c136 10 (by omega) (by omega)
  have e2:(10:Int) * 78913 / 262144=3:=by omega
  rw [e2] at c2
  simp only [F183,go_sem,op,mv,↓reduceIte,Nat.reduceAdd,Nat.reduceEqDiff,Nat.reduceLT,Int.reduceNeg,Int.cast_ofNat_Int,Int.reduceLT,Int.reduceAdd,Int.reduceSub,Int.reduceLE,Int.reduceEq,Int.reduceToNat,Nat.reduceSub,Nat.reduceMul,Nat.reduceLeDiff,c1,c2,a1,c138]
theorem c122 (n:Nat) (h:n < 100):G0 182 [.int .i64 n] []=some (.str (Nt.dec n),[]):=by
 refine contract F182 rfl rfl rfl ?_
 have a0:(0:Int)≤(n:Int):=by omega
 by_cases h1:n < 10
 ·have a1:(n:Int) < 10:=by omega
  have w:IntKind.i64.wrap ((n:Int)+1)=((n+1:Nat):Int):=by rw [w64 (by omega) (by omega)]; rfl
  have a2:(n:Int)≤((n+1:Nat):Int):=by omega
  have a3:((n+1:Nat):Int)≤36:=by omega
  have q:sliceA true 0 (.str digS) (some (.int .i64 (n:Int))) (some (.int .i64 ((n+1:Nat):Int)))=some (.str (Nt.dec n)):=by
   rw [slcS_both _ _ _ _ _ _ a0 a2 (by rw [lnD]; omega),Int.toNat_natCast,Int.toNat_natCast,digS_t h1]
  simp only [digS] at q
  simp only [F182,go_sem,op,mv,↓reduceIte,Nat.reduceAdd,Nat.reduceEqDiff,Nat.reduceLT,a1,w,q]
 ·have a1:¬ (n:Int) < 10:=by omega
  have w1:IntKind.i64.wrap ((n:Int) * 2)=((n * 2:Nat):Int):=by rw [w64 (by omega) (by omega)]; omega
  have w2:IntKind.i64.wrap (((n * 2:Nat):Int)+2)=((n * 2+2:Nat):Int):=by rw [w64 (by omega) (by omega)]; rfl
  have a4:(0:Int)≤((n * 2:Nat):Int):=by omega
  have a2:((n * 2:Nat):Int)≤((n * 2+2:Nat):Int):=by omega
  have a3:((n * 2+2:Nat):Int)≤256:=by omega
  have q:sliceA true 0 (.str smS) (some (.int .i64 ((n * 2:Nat):Int))) (some (.int .i64 ((n * 2+2:Nat):Int)))=some (.str (Nt.dec n)):=by
   rw [slcS_both _ _ _ _ _ _ a4 a2 (by rw [lnS]; omega),Int.toNat_natCast,Int.toNat_natCast,smS_t (by omega) h]
  simp only [smS] at q
  simp only [F182,go_sem,op,mv,↓reduceIte,Nat.reduceAdd,Nat.reduceEqDiff,Nat.reduceLT,a1,w1,w2,q]
end Go.Av
namespace Go.Av
open Go.Nt
set_option linter.unusedSimpArgs false
set_option maxHeartbeats 8000000
set_option maxRecDepth 100000
theorem l124 (n:Int) (sh:List (List AV)):execX G0 L184_0 (ST [(0,.ss 0 1 3 1),(1,.int .u64 n),(4,.int .i64 3)] [] sh)=some (.ex 0,ST [(0,.ss 0 1 3 1),(1,.int .u64 n),(4,.int .i64 3),(20,.bool false)] [] sh):=by
 rw [Y_loop (L:=L184_0) rfl]
 simp only [go_sem,op,mv,↓reduceIte,Nat.reduceAdd,Nat.reduceEqDiff,Nat.reduceLT,Int.reduceNeg,Int.reduceLE,Int.reduceToNat,Int.reduceLT,Nat.reduceLeDiff]
theorem tq (n m:Nat):((n:Int)).tdiv (m:Int)=((n / m:Nat):Int):=by rw [Int.tdiv_eq_ediv_of_nonneg (by omega)]; rfl
theorem tm (n m:Nat):((n:Int)).tmod (m:Int)=((n % m:Nat):Int):=by rw [Int.tmod_eq_emod_of_nonneg (by omega)]; rfl
theorem c124 (n:Nat) (h1:100≤n) (h2:n≤999):G0 184 [.ss 0 1 3 1,.int .u64 n] [[.int .u8 0,.int .u8 0,.int .u8 0,.int .u8 0,.int .u8 0,.int .u8 0,.int .u8 0,.int .u8 0,.int .u8 0,.int .u8 0,.int .u8 0,.int .u8 0,.int .u8 0,.int .u8 0,.int .u8 0,.int .u8 0,.int .u8 0,.int .u8 0,.int .u8 0,.int .u8 0,.int .u8 0,.int .u8 0,.int .u8 0,.int .u8 0]]=some (.tup [],[[.int .u8 0,.int .u8 (bI (dig (n / 100))),.int .u8 (bI (dig (n / 10 % 10))),.int .u8 (bI (dig (n % 10))),.int .u8 0,.int .u8 0,.int .u8 0,.int .u8 0,.int .u8 0,.int .u8 0,.int .u8 0,.int .u8 0,.int .u8 0,.int .u8 0,.int .u8 0,.int .u8 0,.int .u8 0,.int .u8 0,.int .u8 0,.int .u8 0,.int .u8 0,.int .u8 0,.int .u8 0,.int .u8 0]]):=by
 refine contract F184 rfl rfl rfl ?_
 have w0:IntKind.u32.wrap (n:Int)=(n:Int):=wu32 (by omega) (by omega)
 have e1:((n:Int)).tmod 100=((n % 100:Nat):Int):=tm n 100
 have e2:((n:Int)).tdiv 100=((n / 100:Nat):Int):=tq n 100
 have w1:IntKind.u32.wrap (((n % 100:Nat):Int) * 2)=((n % 100 * 2:Nat):Int):=by rw [wu32 (by omega) (by omega)]; omega
 have w2:IntKind.u32.wrap (((n % 100 * 2:Nat):Int)+1)=((n % 100 * 2+1:Nat):Int):=by rw [wu32 (by omega) (by omega)]; rfl
 have w3:IntKind.u32.wrap ((n / 100:Nat):Int)=((n / 100:Nat):Int):=wu32 (by omega) (by omega)
 have w4:IntKind.u32.wrap (48+((n / 100:Nat):Int))=48+((n / 100:Nat):Int):=wu32 (by omega) (by omega)
 have w5:IntKind.u8.wrap (48+((n / 100:Nat):Int))=bI (dig (n / 100)):=by
  rw [wu8 (by omega) (by omega)]
  unfold bI dig
  simp only [UInt8.toNat_ofNat']
  omega
 have q0:=smS_0 (n:=n % 100) (by omega)
 have q1:=smS_1 (n:=n % 100) (by omega)
 have e3:n % 100 / 10=n / 10 % 10:=by omega
 have e4:n % 100 % 10=n % 10:=by omega
 rw [e3] at q0
 rw [e4] at q1
 simp only [smS] at q0 q1
 have a1:(0:Int)≤((n % 100 * 2:Nat):Int):=by omega
 have a2:(0:Int)≤((n % 100 * 2+1:Nat):Int):=by omega
 simp only [F184,go_sem,op,mv,↓reduceIte,Nat.reduceAdd,Nat.reduceEqDiff,Nat.reduceLT,Int.reduceNeg,Int.cast_ofNat_Int,Int.reduceLT,Int.reduceAdd,Int.reduceSub,Int.reduceLE,Int.reduceEq,Int.reduceToNat,Nat.reduceSub,Nat.reduceMul,Nat.reduceLeDiff,l124,w0,e1,e2,w1,w2,w3,w4,w5,a1,a2,q0,q1]
 rfl
theorem c100 (n:Nat) (h2:n≤999):G0 176 [.int .i64 n,.int .i64 10] []=some (.str (Nt.dec n),[]):=by
 refine contract F176 rfl rfl rfl ?_
 have a0:(0:Int)≤(n:Int):=by omega
 by_cases h1:n < 100
 ·have a1:(n:Int) < 100:=by omega
  simp only [F176,go_sem,op,mv,↓reduceIte,Nat.reduceAdd,Nat.reduceEqDiff,Nat.reduceLT,Int.reduceNeg,Int.cast_ofNat_Int,Int.reduceLT,Int.reduceAdd,Int.reduceSub,Int.reduceLE,Int.reduceEq,Int.reduceToNat,Nat.reduceSub,Nat.reduceMul,Nat.reduceLeDiff,a0,a1,c122 n h1]
 ·have a1:¬ (n:Int) < 100:=by omega
  have a2:¬ (n:Int) < 0:=by omega
  have w:IntKind.u64.wrap (n:Int)=(n:Int):=wu64 (by omega) (by omega)
  have ed:Nt.dec n=[dig (n / 100),dig (n / 10 % 10),dig (n % 10)]:=by
   unfold Nt.dec
   rw [if_neg (by omega),if_neg h1]
  rw [ed]
  have hr:∀ a b c:Int,rowsC 1 3 1 [.int .u8 0,.int .u8 a,.int .u8 b,.int .u8 c,.int .u8 0,.int .u8 0,.int .u8 0,.int .u8 0,.int .u8 0,.int .u8 0,.int .u8 0,.int .u8 0,.int .u8 0,.int .u8 0,.int .u8 0,.int .u8 0,.int .u8 0,.int .u8 0,.int .u8 0,.int .u8 0,.int .u8 0,.int .u8 0,.int .u8 0,.int .u8 0]=some [[.int .u8 a],[.int .u8 b],[.int .u8 c]]:=fun _ _ _=>rfl
  simp only [F176,go_sem,op,mv,↓reduceIte,Nat.reduceAdd,Nat.reduceEqDiff,Nat.reduceLT,Int.reduceNeg,Int.cast_ofNat_Int,Int.reduceLT,Int.reduceAdd,Int.reduceSub,Int.reduceLE,Int.reduceEq,Int.reduceToNat,Nat.reduceSub,Nat.reduceMul,Nat.reduceLeDiff,a0,a1,a2,w,c123 n (by omega) h2,c124 n (by omega) h2,hr,bR,UInt8.ofNat_toNat]
theorem c76 (n:Nat) (h2:n≤999):G0 160 [.int .i64 n] []=some (.str (Nt.dec n),[]):=by
 refine contract F160 rfl rfl rfl ?_
 simp only [F160,go_sem,op,mv,↓reduceIte,Nat.reduceAdd,Nat.reduceEqDiff,Nat.reduceLT,c100 n h2]
theorem c50 (n:Nat) (h2:n≤999):G0 126 [.int .i64 n] []=some (.str (Nt.dec n),[]):=by
 refine contract F126 rfl rfl rfl ?_
 simp only [F126,go_sem,op,mv,↓reduceIte,Nat.reduceAdd,Nat.reduceEqDiff,Nat.reduceLT,c76 n h2]
end Go.Av
namespace Go.Av
open Go.Nt
set_option linter.unusedSimpArgs false
set_option maxHeartbeats 8000000
set_option maxRecDepth 100000
theorem ib_some {b:UInt8}:∀ {s a r:Bs},cut b s=some (a,r)→Lib.indexByte s b=(a.length:Int)
 | [],a,r,h=>by cases h
 | c :: s,a,r,h=>by
  simp only [cut] at h
  unfold Lib.indexByte
  by_cases hc:c=b
  ·rw [if_pos hc] at h
   simp only [Option.some.injEq,Prod.mk.injEq] at h
   obtain ⟨rfl,rfl⟩:=h
   rw [if_pos (by simp [hc])]; rfl
  ·rw [if_neg hc] at h
   obtain ⟨⟨p,q⟩,h1,h2⟩:=Option.map_eq_some_iff.1 h
   simp only [Prod.mk.injEq] at h2
   obtain ⟨rfl,rfl⟩:=h2
   have ih:=ib_some h1
   rw [if_neg (by simp [hc]),ih,if_neg (by simp)]
   rfl
theorem ib_none {b:UInt8}:∀ {s:Bs},cut b s=none→Lib.indexByte s b = -1
 | [],h=>rfl
 | c :: s,h=>by
  simp only [cut] at h
  unfold Lib.indexByte
  by_cases hc:c=b
  ·rw [if_pos hc] at h; cases h
  ·rw [if_neg hc] at h
   have ih:=ib_none (Option.map_eq_none_iff.1 h)
   rw [if_neg (by simp [hc]),ih]; rfl
theorem toB (c:UInt8):(bI c).toNat.toUInt8=c:=by unfold bI; simp
theorem c126 (s:Bs) (c:UInt8):G0 179 [.str s,.int .u8 (bI c)] []=some (.int .i64 (Lib.indexByte s c),[]):=
 Gx_base (by
  have e:∀ args sh,B0 179 args sh=ibB 179 179 args sh:=fun _ _=>rfl
  rw [e]
  unfold ibB
  rw [if_pos rfl]
  simp only [toB])
theorem c105 (s:Bs) (c:UInt8):G0 170 [.str s,.int .u8 (bI c)] []=some (.int .i64 (Lib.indexByte s c),[]):=by
 refine contract F170 rfl rfl rfl ?_
 simp only [F170,go_sem,op,mv,↓reduceIte,Nat.reduceAdd,Nat.reduceEqDiff,Nat.reduceLT,c126]
theorem c81 (s:Bs) (c:UInt8):G0 149 [.str s,.int .u8 (bI c)] []=some (.int .i64 (Lib.indexByte s c),[]):=by
 refine contract F149 rfl rfl rfl ?_
 simp only [F149,go_sem,op,mv,↓reduceIte,Nat.reduceAdd,Nat.reduceEqDiff,Nat.reduceLT,c105]
theorem c141 (s:Bs) (c:UInt8):G0 186 [.str s,.str [c]] []=some (.int .i64 (Lib.indexByte s c),[]):=by
 refine contract F186 rfl rfl rfl ?_
 have g:([c]:Bs)[0]?=some c:=rfl
 by_cases h:s=[c]
 ·subst h
  have e:Lib.indexByte [c] c=0:=by simp [Lib.indexByte]
  rw [e]
  simp only [F186,go_sem,op,mv,↓reduceIte,Nat.reduceAdd,Nat.reduceEqDiff,Nat.reduceLT,Int.reduceNeg,Int.cast_ofNat_Int,Int.reduceLT,Int.reduceAdd,Int.reduceSub,Int.reduceLE,Int.reduceEq,Int.reduceToNat,Nat.reduceSub,Nat.reduceMul,Nat.reduceLeDiff,g]
 ·have h':(([c]:Bs) == s)=false:=by simp [Ne.symm h]
  simp only [F186,go_sem,op,mv,↓reduceIte,Nat.reduceAdd,Nat.reduceEqDiff,Nat.reduceLT,Int.reduceNeg,Int.cast_ofNat_Int,Int.reduceLT,Int.reduceAdd,Int.reduceSub,Int.reduceLE,Int.reduceEq,Int.reduceToNat,Nat.reduceSub,Nat.reduceMul,Nat.reduceLeDiff,g,h',c105]
theorem c128y {s a r:Bs} {c:UInt8} (hs:s.length≤1000000) (h:cut c s=some (a,r)):G0 178 [.str s,.str [c]] []=some (.tup [.str a,.str r,.bool true],[]):=by
 refine contract F178 rfl rfl rfl ?_
 have hi:=ib_some h
 obtain ⟨rfl,_⟩:=cut_spec.1 h
 simp only [List.length_append,List.length_cons] at hs
 have w:IntKind.i64.wrap ((a.length:Int)+1)=((a.length+1:Nat):Int):=by rw [w64 (by omega) (by omega)]; rfl
 have a0:(0:Int)≤(a.length:Int):=by omega
 have q1:sliceA true 0 (.str (a++c :: r)) none (some (.int .i64 (a.length:Int)))=some (.str a):=by
  rw [slcS_hi _ _ _ _ a0 (by simp only [List.length_append]; omega),Int.toNat_natCast,List.take_left]
 have q2:sliceA true 0 (.str (a++c :: r)) (some (.int .i64 ((a.length+1:Nat):Int))) none=some (.str r):=by
  rw [slcS_lo _ _ _ _ (by omega) (by simp only [List.length_append,List.length_cons]; omega),Int.toNat_natCast]
  have:a++c :: r=(a++[c])++r:=by simp
  rw [this,List.drop_left' (by simp)]
 simp only [F178,go_sem,op,mv,↓reduceIte,Nat.reduceAdd,Nat.reduceEqDiff,Nat.reduceLT,Int.reduceNeg,Int.cast_ofNat_Int,Int.reduceLT,Int.reduceAdd,Int.reduceSub,Int.reduceLE,Int.reduceEq,Int.reduceToNat,Nat.reduceSub,Nat.reduceMul,Nat.reduceLeDiff,c141,hi,a0,w,q1,q2]
theorem c128n {s:Bs} {c:UInt8} (h:cut c s=none):G0 178 [.str s,.str [c]] []=some (.tup [.str s,.str [],.bool false],[]):=by
 refine contract F178 rfl rfl rfl ?_
 simp only [F178,go_sem,op,mv,↓reduceIte,Nat.reduceAdd,Nat.reduceEqDiff,Nat.reduceLT,Int.reduceNeg,Int.reduceLE,Int.reduceToNat,Int.reduceLT,Nat.reduceLeDiff,c141,ib_none h]
theorem c107y {s a r:Bs} {c:UInt8} (hs:s.length≤1000000) (h:cut c s=some (a,r)):G0 168 [.str s,.str [c]] []=some (.tup [.str a,.str r,.bool true],[]):=by
 refine contract F168 rfl rfl rfl ?_
 simp only [F168,go_sem,op,mv,↓reduceIte,Nat.reduceAdd,Nat.reduceEqDiff,Nat.reduceLT,c128y hs h]
theorem c107n {s:Bs} {c:UInt8} (h:cut c s=none):G0 168 [.str s,.str [c]] []=some (.tup [.str s,.str [],.bool false],[]):=by
 refine contract F168 rfl rfl rfl ?_
 simp only [F168,go_sem,op,mv,↓reduceIte,Nat.reduceAdd,Nat.reduceEqDiff,Nat.reduceLT,c128n h]
theorem c127 (s:Bs) (c:UInt8):G0 180 [.str s,.str [c]] []=some (.bool (s.head? == some c),[]):=by
 refine contract F180 rfl rfl rfl ?_
 cases s with
 | nil=>simp only [F180,go_sem,op,mv,↓reduceIte,Nat.reduceAdd,Nat.reduceEqDiff,Nat.reduceLT,Int.reduceNeg,Int.cast_ofNat_Int,Int.reduceLT,Int.reduceAdd,Int.reduceSub,Int.reduceLE,Int.reduceEq,Int.reduceToNat,Nat.reduceSub,Nat.reduceMul,Nat.reduceLeDiff,List.head?_nil]; rfl
 | cons d r =>
  have a1:(1:Int)≤((r.length+1:Nat):Int):=by omega
  have e:(([d]:Bs) == [c])=(some d == some c):=by simp
  simp only [F180,go_sem,op,mv,↓reduceIte,Nat.reduceAdd,Nat.reduceEqDiff,Nat.reduceLT,Int.reduceNeg,Int.cast_ofNat_Int,Int.reduceLT,Int.reduceAdd,Int.reduceSub,Int.reduceLE,Int.reduceEq,Int.reduceToNat,Nat.reduceSub,Nat.reduceMul,Nat.reduceLeDiff,a1,List.head?_cons,e]
theorem c106 (s:Bs) (c:UInt8):G0 171 [.str s,.str [c]] []=some (.bool (s.head? == some c),[]):=by
 refine contract F171 rfl rfl rfl ?_
 simp only [F171,go_sem,op,mv,↓reduceIte,Nat.reduceAdd,Nat.reduceEqDiff,Nat.reduceLT,c127]
theorem c129 (s:Bs) (c:UInt8) (hs:s.length≤1000000):G0 181 [.str s,.str [c]] []=some (.bool (s.getLast? == some c),[]):=by
 refine contract F181 rfl rfl rfl ?_
 rcases List.eq_nil_or_concat s with rfl | ⟨r,d,rfl⟩
 ·simp only [F181,go_sem,op,mv,↓reduceIte,Nat.reduceAdd,Nat.reduceEqDiff,Nat.reduceLT,Int.reduceNeg,Int.cast_ofNat_Int,Int.reduceLT,Int.reduceAdd,Int.reduceSub,Int.reduceLE,Int.reduceEq,Int.reduceToNat,Nat.reduceSub,Nat.reduceMul,Nat.reduceLeDiff,List.getLast?_nil]; rfl
 ·simp only [List.concat_eq_append] at hs ⊢
  rw [List.length_append] at hs
  simp only [List.length_cons,List.length_nil] at hs
  have hl:((r++[d]).length:Int)=((r.length+1:Nat):Int):=by simp
  have a1:(1:Int)≤((r.length+1:Nat):Int):=by omega
  have w:IntKind.i64.wrap (((r.length+1:Nat):Int) - 1)=(r.length:Int):=by rw [w64 (by omega) (by omega)]; omega
  have q:sliceA true 0 (.str (r++[d])) (some (.int .i64 (r.length:Int))) none=some (.str [d]):=by
   rw [slcS_lo _ _ _ _ (by omega) (by rw [hl]; omega),Int.toNat_natCast,List.drop_left]
  have e:(([d]:Bs) == [c])=(some d == some c):=by simp
  simp only [F181,go_sem,op,mv,↓reduceIte,Nat.reduceAdd,Nat.reduceEqDiff,Nat.reduceLT,Int.reduceNeg,Int.cast_ofNat_Int,Int.reduceLT,Int.reduceAdd,Int.reduceSub,Int.reduceLE,Int.reduceEq,Int.reduceToNat,Nat.reduceSub,Nat.reduceMul,Nat.reduceLeDiff,hl,a1,w,q,List.getLast?_concat,e]
theorem c108 (s:Bs) (c:UInt8) (hs:s.length≤1000000):G0 172 [.str s,.str [c]] []=some (.bool (s.getLast? == some c),[]):=by
 refine contract F172 rfl rfl rfl ?_
 simp only [F172,go_sem,op,mv,↓reduceIte,Nat.reduceAdd,Nat.reduceEqDiff,Nat.reduceLT,c129 s c hs]
theorem nameOf_some {s a r:Bs} (h:cut 32 s=some (a,r)):nameOf s=a:=by
 obtain ⟨rfl,h2⟩:=cut_spec.1 h
 unfold nameOf
 rw [List.takeWhile_append_of_pos (fun c hc=>by simp only [bne_iff_ne,ne_eq]; rintro rfl; exact h2 hc)]
 simp
theorem nameOf_none {s:Bs} (h:cut 32 s=none):nameOf s=s:=by
 have:=cut_none.1 h
 have key:∀ l:Bs,32 ∉ l→l.takeWhile (fun c=>c != 32)=l:=by
  intro l
  induction l with
  | nil=>intro _; rfl
  | cons c l ih =>
   intro hl
   simp only [List.mem_cons,not_or] at hl
   rw [List.takeWhile_cons,if_pos (by simpa using Ne.symm hl.1),ih hl.2]
 exact key s this
theorem c84 (s:Bs) (hs:s.length≤1000000):G0 152 [.str s] []=some (.str (nameOf s),[]):=by
 refine contract F152 rfl rfl rfl ?_
 cases h:cut 32 s with
 | none=>rw [nameOf_none h]; simp only [F152,go_sem,op,mv,↓reduceIte,Nat.reduceAdd,Nat.reduceEqDiff,Nat.reduceLT,c107n h]
 | some p =>
  obtain ⟨a,r⟩:=p
  rw [nameOf_some h]; simp only [F152,go_sem,op,mv,↓reduceIte,Nat.reduceAdd,Nat.reduceEqDiff,Nat.reduceLT,c107y hs h]
theorem c98 (s:Bs) (hs:s.length≤1000000):G0 145 [.str s] []=some (.str (nameOf s),[]):=by
 refine contract F145 rfl rfl rfl ?_
 cases h:cut 32 s with
 | none=>rw [nameOf_none h]; simp only [F145,go_sem,op,mv,↓reduceIte,Nat.reduceAdd,Nat.reduceEqDiff,Nat.reduceLT,c107n h]
 | some p =>
  obtain ⟨a,r⟩:=p
  rw [nameOf_some h]; simp only [F145,go_sem,op,mv,↓reduceIte,Nat.reduceAdd,Nat.reduceEqDiff,Nat.reduceLT,c107y hs h]
end Go.Av
namespace Go.Av
open Go.Nt
set_option linter.unusedSimpArgs false
set_option maxHeartbeats 8000000
set_option maxRecDepth 100000
theorem c81' (s:Bs) (c:UInt8):G0 149 [.str s,.int .u8 (c.toNat:Int)] []=some (.int .i64 (Lib.indexByte s c),[]):=c81 s c
theorem nat_ne {c d:UInt8} (h:c≠d):¬ (c.toNat:Int)=(d.toNat:Int):=fun q=>h (UInt8.toNat_inj.1 (by omega))
theorem l64 (s:Bs) (hs:s.length≤1000000):∀ (r p:Bs),s=p++r →
  (32 ∉ r→execX G0 L142_0 (ST [(0,.str s),(3,.int .i64 p.length)] [] [])=some (.ex 0,ST [(0,.str s),(3,.int .i64 s.length),(7,.bool false)] [] [])) ∧
  (32∈r→∃ l',execX G0 L142_0 (ST [(0,.str s),(3,.int .i64 p.length)] [] [])=some (.ret,ST l' [] [])∧look .any l' 2=.str (p++nameOf r))
 | [],p,h=>by
  have h:s=p:=by simp [h]
  subst h
  refine ⟨fun _=>?_,fun h=>(by simp at h)⟩
  rw [Y_loop (L:=L142_0) rfl]
  simp only [go_sem,op,mv,↓reduceIte,Nat.reduceAdd,Nat.reduceEqDiff,Nat.reduceLT,Int.lt_irrefl]
 | c :: r,p,h=>by
  have ih:=l64 s hs r (p++[c]) (by simp [h])
  have hl:s.length=p.length+1+r.length:=by simp [h]; omega
  have e1:((p++[c]).length:Int)=((p.length+1:Nat):Int):=by simp
  rw [e1] at ih
  have h4:(p.length:Int) < (s.length:Int):=by omega
  have h0:(0:Int)≤(p.length:Int):=by omega
  have h5:s[p.length]?=some c:=by rw [h]; simp
  have hw:IntKind.i64.wrap ((p.length:Int)+1)=((p.length+1:Nat):Int):=by rw [w64 (by omega) (by omega)]; rfl
  have hq:s.take p.length=p:=by rw [h]; simp
  have hle:(p.length:Int)≤(s.length:Int):=by omega
  by_cases hc:c=32
  ·subst hc
   refine ⟨fun q=>absurd (List.mem_cons_self ..) q,fun _=>?_⟩
   have hc:(((32:UInt8).toNat:Nat):Int)=32:=rfl
   refine Exists.intro ?_ (And.intro ?_ ?_)
   rotate_left 1
   ·rw [Y_loop (L:=L142_0) rfl]
    simp only [go_sem,op,mv,↓reduceIte,Nat.reduceAdd,Nat.reduceEqDiff,Nat.reduceLT,h4,h0,h5,hc,hle,hq]
    rfl
   ·simp only [go_sem,op,mv,↓reduceIte,Nat.reduceAdd,Nat.reduceEqDiff,Nat.reduceLT,nameOf,List.takeWhile_cons,bne_self_eq_false,Bool.false_eq_true,List.append_nil]
  ·have a:¬ (c.toNat:Int)=32:=nat_ne hc
   have em:(32∈c :: r)↔32∈r:=by simp [Ne.symm hc]
   have en:nameOf (c :: r)=c :: nameOf r:=by simp [nameOf,hc]
   rw [em,en]
   have step:execX G0 L142_0 (ST [(0,.str s),(3,.int .i64 p.length)] [] [])=execX G0 L142_0 (ST [(0,.str s),(3,.int .i64 ((p.length+1:Nat):Int))] [] []):=by
    conv=>lhs; rw [Y_loop (L:=L142_0) rfl]
    simp only [go_sem,op,mv,↓reduceIte,Nat.reduceAdd,Nat.reduceEqDiff,Nat.reduceLT,h4,h0,h5,a,hw]
   rw [step]
   simpa using ih
theorem nameOf_no {s:Bs} (h:32 ∉ s):nameOf s=s:=by
 have:=cut_none.2 h
 exact nameOf_none this
theorem c64 (s:Bs) (hs:s.length≤1000000):G0 142 [.str s] []=some (.str (nameOf s),[]):=by
 refine contract F142 rfl rfl rfl ?_
 obtain ⟨x1,x2⟩:=l64 s hs s [] rfl
 have ec:((([]:Bs).length:Nat):Int)=0:=rfl
 rw [ec] at x1 x2
 by_cases h:32∈s
 ·obtain ⟨l',y1,y2⟩:=x2 h
  rw [List.nil_append] at y2
  simp only [F142,go_sem,op,mv,↓reduceIte,Nat.reduceAdd,Nat.reduceEqDiff,Nat.reduceLT,y1,y2]
 ·rw [nameOf_no h]
  simp only [F142,go_sem,op,mv,↓reduceIte,Nat.reduceAdd,Nat.reduceEqDiff,Nat.reduceLT,x1 h]
theorem digB_I (c:UInt8):digB c=true↔48≤(c.toNat:Int)∧(c.toNat:Int)≤57:=by
 unfold digB
 simp only [Bool.and_eq_true,decide_eq_true_eq]
 omega
theorem l109 (s:Bs) (hs:s.length≤3):∀ (r p:Bs) (n:Nat),s=p++r→n < 10 ^ p.length →
  (r.all digB=true→execX G0 L173_0 (ST [(0,.str s),(4,.int .i64 n),(5,.int .i64 p.length),(18,.bool false)] [] [])=some (.ex 0,ST [(0,.str s),(4,.int .i64 (numV r n:Nat)),(5,.int .i64 s.length),(18,.bool false),(22,.bool false)] [] [])∧numV r n < 10 ^ s.length) ∧
  (r.all digB=false→∃ l',execX G0 L173_0 (ST [(0,.str s),(4,.int .i64 n),(5,.int .i64 p.length),(18,.bool false)] [] [])=some (.ret,ST l' [] [])∧look .any l' 2=.int .i64 0∧look .any l' 3=.bool false)
 | [],p,n,h,hn=>by
  have h:s=p:=by simp [h]
  subst h
  refine ⟨fun _=>⟨?_,hn⟩,fun h=>(by simp at h)⟩
  rw [Y_loop (L:=L173_0) rfl]
  simp only [go_sem,op,mv,↓reduceIte,Nat.reduceAdd,Nat.reduceEqDiff,Nat.reduceLT,Int.lt_irrefl]
  rfl
 | c :: r,p,n,h,hn=>by
  have hl:s.length=p.length+1+r.length:=by simp [h]; omega
  have h4:(p.length:Int) < (s.length:Int):=by omega
  have h0:(0:Int)≤(p.length:Int):=by omega
  have h5:s[p.length]?=some c:=by rw [h]; simp
  have hw:IntKind.i64.wrap ((p.length:Int)+1)=((p.length+1:Nat):Int):=by rw [w64 (by omega) (by omega)]; rfl
  have hI:=digB_I c
  have e1:((p++[c]).length:Int)=((p.length+1:Nat):Int):=by simp
  have hp3:10 ^ p.length≤10 ^ 3:=Nat.pow_le_pow_right (by decide) (by omega)
  rw [List.all_cons]
  cases hc:digB c with
  | true =>
   obtain ⟨a1,a2⟩:=hI.1 hc
   have ih:=l109 s hs r (p++[c]) (10 * n+(c.toNat - 48)) (by simp [h]) (by rw [List.length_append,List.length_singleton,Nat.pow_succ]; omega)
   rw [e1] at ih
   have b1:¬ (c.toNat:Int) < 48:=by omega
   have b2:¬ 57 < (c.toNat:Int):=by omega
   have w1:IntKind.i64.wrap (10 * (n:Int))=10 * (n:Int):=w64 (by omega) (by omega)
   have w2:IntKind.u8.wrap ((c.toNat:Int) - 48)=(c.toNat:Int) - 48:=wu8 (by omega) (by omega)
   have w3:IntKind.i64.wrap ((c.toNat:Int) - 48)=(c.toNat:Int) - 48:=w64 (by omega) (by omega)
   have w4:IntKind.i64.wrap (10 * (n:Int)+((c.toNat:Int) - 48))=((10 * n+(c.toNat - 48):Nat):Int):=by rw [w64 (by omega) (by omega)]; omega
   have step:execX G0 L173_0 (ST [(0,.str s),(4,.int .i64 n),(5,.int .i64 p.length),(18,.bool false)] [] [])=execX G0 L173_0 (ST [(0,.str s),(4,.int .i64 ((10 * n+(c.toNat - 48):Nat):Int)),(5,.int .i64 ((p.length+1:Nat):Int)),(18,.bool false)] [] []):=by
    conv=>lhs; rw [Y_loop (L:=L173_0) rfl]
    simp only [go_sem,op,mv,↓reduceIte,Nat.reduceAdd,Nat.reduceEqDiff,Nat.reduceLT,h4,h5,h0,b1,b2,w1,w2,w3,w4,hw]
   rw [step,Bool.true_and]
   exact ih
  | false =>
   refine ⟨fun q=>(by simp at q),fun _=>?_⟩
   by_cases a1:(c.toNat:Int) < 48
   ·refine Exists.intro ?_ (And.intro ?_ ?_)
    rotate_left 1
    ·rw [Y_loop (L:=L173_0) rfl]
     simp only [go_sem,op,mv,↓reduceIte,Nat.reduceAdd,Nat.reduceEqDiff,Nat.reduceLT,h4,h5,h0,a1]
     rfl
    ·exact ⟨rfl,rfl⟩
   ·have a2:57 < (c.toNat:Int):=by
     by_cases q:57 < (c.toNat:Int)
     ·exact q
     ·rw [hI.2 ⟨by omega,by omega⟩] at hc; cases hc
    refine Exists.intro ?_ (And.intro ?_ ?_)
    rotate_left 1
    ·rw [Y_loop (L:=L173_0) rfl]
     simp only [go_sem,op,mv,↓reduceIte,Nat.reduceAdd,Nat.reduceEqDiff,Nat.reduceLT,h4,h5,h0,a1,a2]
     rfl
    ·exact ⟨rfl,rfl⟩
theorem c109n (s:Bs) (h:rdN s=none):G0 173 [.str s] []=some (.tup [.int .i64 0,.bool false],[]):=by
 refine contract F173 rfl rfl rfl ?_
 by_cases h1:s.length < 1
 ·have h1':(s.length:Int) < 1:=by omega
  simp only [F173,go_sem,op,mv,↓reduceIte,Nat.reduceAdd,Nat.reduceEqDiff,Nat.reduceLT,Int.reduceNeg,Int.cast_ofNat_Int,Int.reduceLT,Int.reduceAdd,Int.reduceSub,Int.reduceLE,Int.reduceEq,Int.reduceToNat,Nat.reduceSub,Nat.reduceMul,Nat.reduceLeDiff,h1']
 have h1':¬ (s.length:Int) < 1:=by omega
 by_cases h2:3 < s.length
 ·have h2':(3:Int) < (s.length:Int):=by omega
  simp only [F173,go_sem,op,mv,↓reduceIte,Nat.reduceAdd,Nat.reduceEqDiff,Nat.reduceLT,Int.reduceNeg,Int.cast_ofNat_Int,Int.reduceLT,Int.reduceAdd,Int.reduceSub,Int.reduceLE,Int.reduceEq,Int.reduceToNat,Nat.reduceSub,Nat.reduceMul,Nat.reduceLeDiff,h1',h2']
 have h2':¬ (3:Int) < (s.length:Int):=by omega
 have h3:=headI (s:=s) (by omega)
 have hh:s.head?=some (s.headD 0):=by cases s with | nil=>simp at h1 | cons=>rfl
 generalize s.headD 0=c at h3 hh
 by_cases h4:c=48
 ·have h4':(c.toNat:Int)=48:=by rw [h4]; rfl
  simp only [F173,go_sem,op,mv,↓reduceIte,Nat.reduceAdd,Nat.reduceEqDiff,Nat.reduceLT,Int.reduceNeg,Int.cast_ofNat_Int,Int.reduceLT,Int.reduceAdd,Int.reduceSub,Int.reduceLE,Int.reduceEq,Int.reduceToNat,Nat.reduceSub,Nat.reduceMul,Nat.reduceLeDiff,h1',h2',h3,h4']
 have h4':¬ (c.toNat:Int)=48:=nat_ne h4
 have hv:s.all digB=false:=by
  cases q:s.all digB with
  | false=>rfl
  | true =>
   unfold rdN at h
   rw [if_pos ⟨by omega,by omega,by rw [hh]; simpa using h4,q⟩] at h
   cases h
 obtain ⟨l',y1,y2,y3⟩:=(l109 s (by omega) s [] 0 rfl (by simp)).2 hv
 have ec:((([]:Bs).length:Nat):Int)=0:=rfl
 rw [ec] at y1
 have e0:((0:Nat):Int)=0:=rfl
 rw [e0] at y1
 simp only [F173,go_sem,op,mv,↓reduceIte,Nat.reduceAdd,Nat.reduceEqDiff,Nat.reduceLT,Int.reduceNeg,Int.cast_ofNat_Int,Int.reduceLT,Int.reduceAdd,Int.reduceSub,Int.reduceLE,Int.reduceEq,Int.reduceToNat,Nat.reduceSub,Nat.reduceMul,Nat.reduceLeDiff,h1',h2',h3,h4',y1,y2,y3]
theorem c109 (s:Bs) (n:Nat) (h:rdN s=some n):G0 173 [.str s] []=some (.tup [.int .i64 n,.bool true],[])∧n≤999:=by
 unfold rdN at h
 split at h
 case isFalse=>cases h
 rename_i hc
 obtain ⟨h1,h2,h5,hv⟩:=hc
 cases h
 have h1':¬ (s.length:Int) < 1:=by omega
 have h2':¬ (3:Int) < (s.length:Int):=by omega
 have h3:=headI (s:=s) (by omega)
 have hh:s.head?=some (s.headD 0):=by cases s with | nil=>simp at h1 | cons=>rfl
 generalize s.headD 0=c at h3 hh
 have h4':¬ (c.toNat:Int)=48:=nat_ne (by rw [hh] at h5; simpa using h5)
 obtain ⟨y1,y2⟩:=(l109 s (by omega) s [] 0 rfl (by simp)).1 hv
 have hp3:10 ^ s.length≤10 ^ 3:=Nat.pow_le_pow_right (by decide) (by omega)
 refine ⟨?_,by omega⟩
 refine contract F173 rfl rfl rfl ?_
 have ec:((([]:Bs).length:Nat):Int)=0:=rfl
 rw [ec] at y1
 have e0:((0:Nat):Int)=0:=rfl
 rw [e0] at y1
 have hle:((numV s 0:Nat):Int)≤999:=by omega
 simp only [F173,go_sem,op,mv,↓reduceIte,Nat.reduceAdd,Nat.reduceEqDiff,Nat.reduceLT,Int.reduceNeg,Int.reduceLE,Int.reduceToNat,Int.reduceLT,Nat.reduceLeDiff,h1',h2',h3,h4',y1,hle]
theorem okB_I (c:UInt8):okB c=true↔32≤(c.toNat:Int)∧(c.toNat:Int)≤126∧c≠60∧c≠62∧c≠123∧c≠125:=by
 unfold okB
 simp only [Bool.and_eq_true,decide_eq_true_eq,bne_iff_ne,ne_eq,and_assoc]
 exact ⟨fun ⟨a,b,c⟩=>⟨by omega,by omega,c⟩,fun ⟨a,b,c⟩=>⟨by omega,by omega,c⟩⟩
theorem ib4y {c:UInt8} (h:c=60∨c=62∨c=123∨c=125):0≤Lib.indexByte [60,62,123,125] c:=by
 rcases h with rfl | rfl | rfl | rfl <;> decide
theorem ib4n {c:UInt8} (h1:c≠60) (h2:c≠62) (h3:c≠123) (h4:c≠125):¬ 0≤Lib.indexByte [60,62,123,125] c:=by
 have:cut c [60,62,123,125]=none:=cut_none.2 (by simp [h1,h2,h3,h4])
 rw [ib_none this]
 decide
theorem l97 (s:Bs) (hs:s.length≤64):∀ (r p:Bs),s=p++r →
  (r.all okB=true→execX G0 L144_0 (ST [(0,.str s),(3,.int .i64 p.length),(22,.bool false)] [] [])=some (.ex 0,ST [(0,.str s),(3,.int .i64 s.length),(22,.bool false),(26,.bool false)] [] [])) ∧
  (r.all okB=false→∃ l',execX G0 L144_0 (ST [(0,.str s),(3,.int .i64 p.length),(22,.bool false)] [] [])=some (.ret,ST l' [] [])∧look .any l' 2=.bool false)
 | [],p,h=>by
  have h:s=p:=by simp [h]
  subst h
  refine ⟨fun _=>?_,fun h=>(by simp at h)⟩
  rw [Y_loop (L:=L144_0) rfl]
  simp only [go_sem,op,mv,↓reduceIte,Nat.reduceAdd,Nat.reduceEqDiff,Nat.reduceLT,Int.lt_irrefl]
 | c :: r,p,h=>by
  have hl:s.length=p.length+1+r.length:=by simp [h]; omega
  have h4:(p.length:Int) < (s.length:Int):=by omega
  have h0:(0:Int)≤(p.length:Int):=by omega
  have h5:s[p.length]?=some c:=by rw [h]; simp
  have hw:IntKind.i64.wrap ((p.length:Int)+1)=((p.length+1:Nat):Int):=by rw [w64 (by omega) (by omega)]; rfl
  have hI:=okB_I c
  have e1:((p++[c]).length:Int)=((p.length+1:Nat):Int):=by simp
  have ih:=l97 s hs r (p++[c]) (by simp [h])
  rw [e1] at ih
  rw [List.all_cons]
  cases hc:okB c with
  | true =>
   obtain ⟨a1,a2,a3,a4,a5,a6⟩:=hI.1 hc
   have b1:¬ (c.toNat:Int) < 32:=by omega
   have b2:¬ 126 < (c.toNat:Int):=by omega
   have b3:¬ (c.toNat:Int)=60:=nat_ne a3
   have b4:¬ (c.toNat:Int)=62:=nat_ne a4
   have b5:¬ (c.toNat:Int)=123:=nat_ne a5
   have b6:¬ (c.toNat:Int)=125:=nat_ne a6
   have b7:=ib4n a3 a4 a5 a6
   have step:execX G0 L144_0 (ST [(0,.str s),(3,.int .i64 p.length),(22,.bool false)] [] [])=execX G0 L144_0 (ST [(0,.str s),(3,.int .i64 ((p.length+1:Nat):Int)),(22,.bool false)] [] []):=by
    conv=>lhs; rw [Y_loop (L:=L144_0) rfl]
    simp only [go_sem,op,mv,↓reduceIte,Nat.reduceAdd,Nat.reduceEqDiff,Nat.reduceLT,h4,h5,h0,hw,b1,b2,b7,c81']
   rw [step,Bool.true_and]
   exact ih
  | false =>
   refine ⟨fun q=>(by simp at q),fun _=>?_⟩
   by_cases a1:(c.toNat:Int) < 32
   ·refine Exists.intro ?_ (And.intro ?_ ?_)
    rotate_left 1
    ·rw [Y_loop (L:=L144_0) rfl]
     simp only [go_sem,op,mv,↓reduceIte,Nat.reduceAdd,Nat.reduceEqDiff,Nat.reduceLT,h4,h5,h0,a1]
     rfl
    ·rfl
   by_cases a2:126 < (c.toNat:Int)
   ·refine Exists.intro ?_ (And.intro ?_ ?_)
    rotate_left 1
    ·rw [Y_loop (L:=L144_0) rfl]
     simp only [go_sem,op,mv,↓reduceIte,Nat.reduceAdd,Nat.reduceEqDiff,Nat.reduceLT,h4,h5,h0,a1,a2]
     rfl
    ·rfl
   have a3:c=60∨c=62∨c=123∨c=125:=by
    by_cases q3:c=60
    ·exact .inl q3
    by_cases q4:c=62
    ·exact .inr (.inl q4)
    by_cases q5:c=123
    ·exact .inr (.inr (.inl q5))
    by_cases q6:c=125
    ·exact .inr (.inr (.inr q6))
    rw [hI.2 ⟨by omega,by omega,q3,q4,q5,q6⟩] at hc; cases hc
   have a4:=ib4y a3
   refine Exists.intro ?_ (And.intro ?_ ?_)
   rotate_left 1
   ·rw [Y_loop (L:=L144_0) rfl]
    simp only [go_sem,op,mv,↓reduceIte,Nat.reduceAdd,Nat.reduceEqDiff,Nat.reduceLT,h4,h5,h0,a1,a2,a4,c81']
    rfl
   ·rfl
theorem last_at {s:Bs} (h:1≤s.length):∃ c,s[s.length - 1]?=some c∧s.getLast?=some c:=by
 rcases List.eq_nil_or_concat s with rfl | ⟨r,d,rfl⟩
 ·simp at h
 ·exact ⟨d,by simp,by simp⟩
theorem isC_eq (s:Bs):isC s=(decide (s.length≤64) && (s.all okB && (isNm (nameOf s) && ((decide ((nameOf s).length=s.length) || decide ((nameOf s).length+1 < s.length)) && !(s.getLast? == some 47))))):=by
 unfold isC
 simp only [Bool.and_assoc]
theorem nameOf_le (s:Bs):(nameOf s).length≤s.length:=by
 unfold nameOf
 exact (List.takeWhile_prefix _).length_le
theorem c97 (s:Bs):G0 144 [.str s] []=some (.bool (isC s),[]):=by
 refine contract F144 rfl rfl rfl ?_
 rw [isC_eq]
 by_cases h1:64 < s.length
 ·have h1':(64:Int) < (s.length:Int):=by omega
  have e:decide (s.length≤64)=false:=decide_eq_false (by omega)
  simp only [F144,go_sem,op,mv,↓reduceIte,Nat.reduceAdd,Nat.reduceEqDiff,Nat.reduceLT,h1',e,Bool.false_and]
 have h1':¬ (64:Int) < (s.length:Int):=by omega
 have e1:decide (s.length≤64)=true:=decide_eq_true (by omega)
 by_cases hn:s.length=0
 ·have:s=[]:=List.length_eq_zero_iff.1 hn
  subst this
  rfl
 have hn':¬ (s.length:Int)=0:=by omega
 obtain ⟨c,g1,g2⟩:=last_at (s:=s) (by omega)
 have g0:(s.length:Int) - 1=((s.length - 1:Nat):Int):=by omega
 have w1:IntKind.i64.wrap (((s.length - 1:Nat):Int))=((s.length - 1:Nat):Int):=w64 (by omega) (by omega)
 have gp:(0:Int)≤((s.length - 1:Nat):Int):=by omega
 rw [g2]
 by_cases h5:c=47
 ·subst h5
  have h5':(((47:UInt8).toNat:Nat):Int)=47:=rfl
  simp only [F144,go_sem,op,mv,↓reduceIte,Nat.reduceAdd,Nat.reduceEqDiff,Nat.reduceLT,h1',hn',g0,w1,gp,g1,h5',beq_self_eq_true,Bool.not_true,Bool.and_false]
 have h5':¬ (c.toNat:Int)=47:=nat_ne h5
 have e6:(!(some c == some 47))=true:=by simp [h5]
 obtain ⟨x1,x2⟩:=l97 s (by omega) s [] rfl
 have ec:((([]:Bs).length:Nat):Int)=0:=rfl
 rw [ec] at x1 x2
 cases hv:s.all okB with
 | false =>
  obtain ⟨l',y1,y2⟩:=x2 hv
  simp only [F144,go_sem,op,mv,↓reduceIte,Nat.reduceAdd,Nat.reduceEqDiff,Nat.reduceLT,h1',hn',g0,w1,gp,g1,h5',e1,y1,y2,Bool.false_and,Bool.and_false]
 | true =>
  have y1:=x1 hv
  cases hc:cut 32 s with
  | none =>
   rw [nameOf_none hc]
   have q:=c107n hc
   cases h2:isNm s with
   | false=>simp only [F144,go_sem,op,mv,↓reduceIte,Nat.reduceAdd,Nat.reduceEqDiff,Nat.reduceLT,h1',hn',g0,w1,gp,g1,h5',e1,y1,q,c83,h2,Bool.true_and,Bool.false_and]
   | true=>simp only [F144,go_sem,op,mv,↓reduceIte,Nat.reduceAdd,Nat.reduceEqDiff,Nat.reduceLT,h1',hn',g0,w1,gp,g1,h5',e1,e6,y1,q,c83,h2,Bool.true_and,Bool.and_true,decide_true,Bool.true_or]
  | some ab =>
   obtain ⟨a,b⟩:=ab
   rw [nameOf_some hc]
   have q:=c107y (by omega) hc
   obtain ⟨hs,_⟩:=cut_spec.1 hc
   have hl:s.length=a.length+1+b.length:=by rw [hs]; simp; omega
   have e4:decide (a.length=s.length)=false:=decide_eq_false (by omega)
   cases h2:isNm a with
   | false=>simp only [F144,go_sem,op,mv,↓reduceIte,Nat.reduceAdd,Nat.reduceEqDiff,Nat.reduceLT,h1',hn',g0,w1,gp,g1,h5',e1,y1,q,c83,h2,Bool.true_and,Bool.false_and]
   | true =>
    by_cases h3:0 < b.length
    ·have h3':(0:Int) < (b.length:Int):=by omega
     have e5:decide (a.length+1 < s.length)=true:=decide_eq_true (by omega)
     simp only [F144,go_sem,op,mv,↓reduceIte,Nat.reduceAdd,Nat.reduceEqDiff,Nat.reduceLT,h1',hn',g0,w1,gp,g1,h5',e1,e4,e5,e6,y1,q,c83,h2,h3',Bool.true_and,Bool.and_true,Bool.or_true]
    ·have h3':¬ (0:Int) < (b.length:Int):=by omega
     have e5:decide (a.length+1 < s.length)=false:=decide_eq_false (by omega)
     simp only [F144,go_sem,op,mv,↓reduceIte,Nat.reduceAdd,Nat.reduceEqDiff,Nat.reduceLT,h1',hn',g0,w1,gp,g1,h5',e1,e4,e5,e6,y1,q,c83,h2,h3',Bool.true_and,Bool.and_true,Bool.or_false,Bool.false_and]
end Go.Av
namespace Go.Av
open Go.Nt
set_option linter.unusedSimpArgs false
set_option maxHeartbeats 8000000
set_option maxRecDepth 100000
theorem isTag_I (k:Int) (s:Bs) (i:Int):isTag (k,s,i)=(decide (k=2) || decide (k=3) || decide (k=4)):=rfl
theorem c65 (k:Int) (s:Bs) (i:Int):G0 157 [.agg [.int .i64 k,.str s,.int .i64 i]] []=some (.bool (isTag (k,s,i)),[]):=by
 refine contract F157 rfl rfl rfl ?_
 rw [isTag_I]
 by_cases h1:k=2
 ·simp only [F157,go_sem,op,mv,↓reduceIte,Nat.reduceAdd,Nat.reduceEqDiff,Nat.reduceLT,h1]
  rfl
 by_cases h2:k=3
 ·simp only [F157,go_sem,op,mv,↓reduceIte,Nat.reduceAdd,Nat.reduceEqDiff,Nat.reduceLT,h1,h2]
  rfl
 by_cases h3:k=4
 ·simp only [F157,go_sem,op,mv,↓reduceIte,Nat.reduceAdd,Nat.reduceEqDiff,Nat.reduceLT,h1,h2,h3]
  rfl
 ·simp only [F157,go_sem,op,mv,↓reduceIte,Nat.reduceAdd,Nat.reduceEqDiff,Nat.reduceLT,h1,h2,h3]
  rfl
theorem c69 (k:Int) (s:Bs) (i:Int):G0 102 [.agg [.int .i64 k,.str s,.int .i64 i]] []=some (.bool (isTag (k,s,i)),[]):=by
 refine contract F102 rfl rfl rfl ?_
 rw [isTag_I]
 by_cases h1:k=2
 ·simp only [F102,go_sem,op,mv,↓reduceIte,Nat.reduceAdd,Nat.reduceEqDiff,Nat.reduceLT,h1]
  rfl
 by_cases h2:k=3
 ·simp only [F102,go_sem,op,mv,↓reduceIte,Nat.reduceAdd,Nat.reduceEqDiff,Nat.reduceLT,h1,h2]
  rfl
 by_cases h3:k=4
 ·simp only [F102,go_sem,op,mv,↓reduceIte,Nat.reduceAdd,Nat.reduceEqDiff,Nat.reduceLT,h1,h2,h3]
  rfl
 ·simp only [F102,go_sem,op,mv,↓reduceIte,Nat.reduceAdd,Nat.reduceEqDiff,Nat.reduceLT,h1,h2,h3]
  rfl
theorem c96 (k:Int) (s:Bs) (i:Int):G0 143 [.agg [.int .i64 k,.str s,.int .i64 i]] []=some (.int .i64 (wid (k,s,i):Nat),[]):=by
 refine contract F143 rfl rfl rfl ?_
 have e:wid (k,s,i)=if k=1 then s.length else 1:=rfl
 rw [e]
 by_cases h1:k=1
 ·simp only [F143,go_sem,op,mv,↓reduceIte,Nat.reduceAdd,Nat.reduceEqDiff,Nat.reduceLT,Int.reduceNeg,Int.cast_ofNat_Int,Int.reduceLT,Int.reduceAdd,Int.reduceSub,Int.reduceLE,Int.reduceEq,Int.reduceToNat,Nat.reduceSub,Nat.reduceMul,Nat.reduceLeDiff,h1]
 ·simp only [F143,go_sem,op,mv,↓reduceIte,Nat.reduceAdd,Nat.reduceEqDiff,Nat.reduceLT,Int.reduceNeg,Int.cast_ofNat_Int,Int.reduceLT,Int.reduceAdd,Int.reduceSub,Int.reduceLE,Int.reduceEq,Int.reduceToNat,Nat.reduceSub,Nat.reduceMul,Nat.reduceLeDiff,h1]
theorem num_cases (a:Bs):∃ (n:Int) (b:Bool),G0 173 [.str a] []=some (.tup [.int .i64 n,.bool b],[])∧b=(rdN a).isSome∧∀ m,rdN a=some m→n=(m:Int):=by
 cases h:rdN a with
 | none=>exact ⟨0,false,c109n a h,rfl,fun m q=>(by cases q)⟩
 | some m=>exact ⟨m,true,(c109 a m h).1,rfl,fun m' q=>(by cases q; rfl)⟩
theorem head47 (c:UInt8) (r:Bs):((c :: r).head? == some 47)=decide (c=47):=by
 by_cases h:c=47 <;> simp [h]
theorem lo1 (c:UInt8) (r:Bs):sliceA true 0 (.str (c :: r)) (some (.int .i64 1)) none=some (.str r):=by
 rw [slcS_lo _ _ _ _ (by decide) (by simp only [List.length_cons]; omega)]
 rfl
theorem hiLast (b:Bs) (h:1≤b.length):sliceA true 0 (.str b) none (some (.int .i64 ((b.length - 1:Nat):Int)))=some (.str b.dropLast):=by
 rw [slcS_hi _ _ _ _ (by omega) (by omega),Int.toNat_natCast,List.dropLast_eq_take]
theorem c82 (t:Bs) (ht:t.length≤1000000):∃ (k:Int) (s:Bs) (i:Int) (b:Bool),G0 150 [.str t] []=some (.tup [.agg [.int .i64 k,.str s,.int .i64 i],.bool b],[])∧b=(rdT t).isSome∧∀ x,rdT t=some x→(k,s,i)=x:=by
 have h106:=c106 t 47
 cases t with
 | nil =>
  have hc:cut 58 ([]:Bs)=none:=rfl
  have q:=c107n hc
  have h8:=c108 [] 47 (by decide)
  obtain ⟨n,b,y1,y2,y3⟩:=num_cases []
  refine ⟨0,[],0,false,?_,rfl,fun x h=>(by cases h)⟩
  refine contract F150 rfl rfl rfl ?_
  simp only [List.head?_nil,List.getLast?_nil] at h106 h8
  have e0:((none:Option UInt8) == some 47)=false:=rfl
  rw [e0] at h106 h8
  simp only [F150,go_sem,op,mv,↓reduceIte,Nat.reduceAdd,Nat.reduceEqDiff,Nat.reduceLT,Int.reduceNeg,Int.cast_ofNat_Int,Int.reduceLT,Int.reduceAdd,Int.reduceSub,Int.reduceLE,Int.reduceEq,Int.reduceToNat,Nat.reduceSub,Nat.reduceMul,Nat.reduceLeDiff,h106,q,h8,y1]
 | cons c r =>
  rw [head47] at h106
  simp only [List.length_cons] at ht
  by_cases h47:c=47
  ·subst h47
   simp only [decide_true] at h106
   have q0:=lo1 47 r
   cases hc:cut 58 r with
   | none =>
    have q:=c107n hc
    obtain ⟨n,b,y1,y2,y3⟩:=num_cases r
    have e:rdT (47 :: r)=none:=by simp [rdT,hc]
    refine ⟨0,[],0,false,?_,by rw [e]; rfl,fun x h=>(by rw [e] at h; cases h)⟩
    refine contract F150 rfl rfl rfl ?_
    simp only [F150,go_sem,op,mv,↓reduceIte,Nat.reduceAdd,Nat.reduceEqDiff,Nat.reduceLT,Int.reduceNeg,Int.cast_ofNat_Int,Int.reduceLT,Int.reduceAdd,Int.reduceSub,Int.reduceLE,Int.reduceEq,Int.reduceToNat,Nat.reduceSub,Nat.reduceMul,Nat.reduceLeDiff,h106,q0,q,y1]
   | some ab =>
    obtain ⟨a,b⟩:=ab
    have q:=c107y (by omega) hc
    cases hn:rdN a with
    | none =>
     have y1:=c109n a hn
     have e:rdT (47 :: r)=none:=by simp [rdT,hc,hn]
     refine ⟨0,[],0,false,?_,by rw [e]; rfl,fun x h=>(by rw [e] at h; cases h)⟩
     refine contract F150 rfl rfl rfl ?_
     simp only [F150,go_sem,op,mv,↓reduceIte,Nat.reduceAdd,Nat.reduceEqDiff,Nat.reduceLT,Int.reduceNeg,Int.cast_ofNat_Int,Int.reduceLT,Int.reduceAdd,Int.reduceSub,Int.reduceLE,Int.reduceEq,Int.reduceToNat,Nat.reduceSub,Nat.reduceMul,Nat.reduceLeDiff,h106,q0,q,y1]
    | some n =>
     have y1:=(c109 a n hn).1
     have e:rdT (47 :: r)=if isNm b=true then some (3,b,(n:Int)) else none:=by simp [rdT,hc,hn]
     refine ⟨3,b,n,isNm b,?_,by rw [e]; cases isNm b <;> rfl,fun x h=>(by rw [e] at h; split at h; cases h; rfl; cases h)⟩
     refine contract F150 rfl rfl rfl ?_
     simp only [F150,go_sem,op,mv,↓reduceIte,Nat.reduceAdd,Nat.reduceEqDiff,Nat.reduceLT,Int.reduceNeg,Int.cast_ofNat_Int,Int.reduceLT,Int.reduceAdd,Int.reduceSub,Int.reduceLE,Int.reduceEq,Int.reduceToNat,Nat.reduceSub,Nat.reduceMul,Nat.reduceLeDiff,h106,q0,q,y1,c83]
  ·rw [decide_eq_false h47] at h106
   cases hc:cut 58 (c :: r) with
   | none =>
    have q:=c107n hc
    have h8:=c108 [] 47 (by decide)
    simp only [List.getLast?_nil] at h8
    have e0:((none:Option UInt8) == some 47)=false:=rfl
    rw [e0] at h8
    obtain ⟨n,b,y1,y2,y3⟩:=num_cases (c :: r)
    have e:rdT (c :: r)=none:=by simp only [rdT]; rw [if_neg h47,hc]
    refine ⟨0,[],0,false,?_,by rw [e]; rfl,fun x h=>(by rw [e] at h; cases h)⟩
    refine contract F150 rfl rfl rfl ?_
    simp only [F150,go_sem,op,mv,↓reduceIte,Nat.reduceAdd,Nat.reduceEqDiff,Nat.reduceLT,Int.reduceNeg,Int.cast_ofNat_Int,Int.reduceLT,Int.reduceAdd,Int.reduceSub,Int.reduceLE,Int.reduceEq,Int.reduceToNat,Nat.reduceSub,Nat.reduceMul,Nat.reduceLeDiff,h106,q,h8,y1]
   | some ab =>
    obtain ⟨a,b⟩:=ab
    have q:=c107y (by simp only [List.length_cons]; omega) hc
    obtain ⟨hs,_⟩:=cut_spec.1 hc
    have hbl:b.length≤1000000:=by have:=congrArg List.length hs; simp at this; omega
    have h8:=c108 b 47 hbl
    cases hn:rdN a with
    | none =>
     have y1:=c109n a hn
     have e:rdT (c :: r)=none:=by simp only [rdT]; rw [if_neg h47,hc]; simp only [hn]
     refine ⟨0,[],0,false,?_,by rw [e]; rfl,fun x h=>(by rw [e] at h; cases h)⟩
     refine contract F150 rfl rfl rfl ?_
     by_cases hb:b.getLast?=some 47
     ·rw [hb,beq_self_eq_true] at h8
      have hb1:1≤b.length:=by cases b with | nil=>cases hb | cons=>simp
      have g0:(b.length:Int) - 1=((b.length - 1:Nat):Int):=by omega
      have w1:IntKind.i64.wrap (((b.length - 1:Nat):Int))=((b.length - 1:Nat):Int):=w64 (by omega) (by omega)
      simp only [F150,go_sem,op,mv,↓reduceIte,Nat.reduceAdd,Nat.reduceEqDiff,Nat.reduceLT,Int.reduceNeg,Int.cast_ofNat_Int,Int.reduceLT,Int.reduceAdd,Int.reduceSub,Int.reduceLE,Int.reduceEq,Int.reduceToNat,Nat.reduceSub,Nat.reduceMul,Nat.reduceLeDiff,h106,q,h8,y1,g0,w1,hiLast b hb1]
     ·have e1:(b.getLast? == some 47)=false:=by simpa using hb
      rw [e1] at h8
      simp only [F150,go_sem,op,mv,↓reduceIte,Nat.reduceAdd,Nat.reduceEqDiff,Nat.reduceLT,Int.reduceNeg,Int.cast_ofNat_Int,Int.reduceLT,Int.reduceAdd,Int.reduceSub,Int.reduceLE,Int.reduceEq,Int.reduceToNat,Nat.reduceSub,Nat.reduceMul,Nat.reduceLeDiff,h106,q,h8,y1]
    | some n =>
     have y1:=(c109 a n hn).1
     by_cases hb:b.getLast?=some 47
     ·rw [hb,beq_self_eq_true] at h8
      have hb1:1≤b.length:=by cases b with | nil=>cases hb | cons=>simp
      have g0:(b.length:Int) - 1=((b.length - 1:Nat):Int):=by omega
      have w1:IntKind.i64.wrap (((b.length - 1:Nat):Int))=((b.length - 1:Nat):Int):=w64 (by omega) (by omega)
      have e:rdT (c :: r)=if isC b.dropLast=true then some (4,b.dropLast,(n:Int)) else none:=by simp only [rdT]; rw [if_neg h47,hc]; simp only [hn]; rw [if_pos hb]
      refine ⟨4,b.dropLast,n,isC b.dropLast,?_,by rw [e]; cases isC b.dropLast <;> rfl,fun x h=>(by rw [e] at h; split at h; cases h; rfl; cases h)⟩
      refine contract F150 rfl rfl rfl ?_
      simp only [F150,go_sem,op,mv,↓reduceIte,Nat.reduceAdd,Nat.reduceEqDiff,Nat.reduceLT,Int.reduceNeg,Int.cast_ofNat_Int,Int.reduceLT,Int.reduceAdd,Int.reduceSub,Int.reduceLE,Int.reduceEq,Int.reduceToNat,Nat.reduceSub,Nat.reduceMul,Nat.reduceLeDiff,h106,q,h8,y1,g0,w1,hiLast b hb1,c97]
     ·have e1:(b.getLast? == some 47)=false:=by simpa using hb
      rw [e1] at h8
      have e:rdT (c :: r)=if isC b=true then some (2,b,(n:Int)) else none:=by simp only [rdT]; rw [if_neg h47,hc]; simp only [hn]; rw [if_neg hb]
      refine ⟨2,b,n,isC b,?_,by rw [e]; cases isC b <;> rfl,fun x h=>(by rw [e] at h; split at h; cases h; rfl; cases h)⟩
      refine contract F150 rfl rfl rfl ?_
      simp only [F150,go_sem,op,mv,↓reduceIte,Nat.reduceAdd,Nat.reduceEqDiff,Nat.reduceLT,Int.reduceNeg,Int.cast_ofNat_Int,Int.reduceLT,Int.reduceAdd,Int.reduceSub,Int.reduceLE,Int.reduceEq,Int.reduceToNat,Nat.reduceSub,Nat.reduceMul,Nat.reduceLeDiff,h106,q,h8,y1,c97]
theorem c77' (c:UInt8):G0 151 [.int .u8 (c.toNat:Int)] []=some (.bool (plain c),[]):=c77 c
theorem cut_cons {b c:UInt8} (h:c≠b) (r:Bs):cut b (c :: r)=(cut b r).map fun p=>(c :: p.1,p.2):=by simp [cut,h]
theorem sl1 (c:UInt8) (t r:Bs):sliceA true 0 (.str (c :: (t++r))) (some (.int .i64 1)) (some (.int .i64 ((t.length+1:Nat):Int)))=some (.str t):=by
 rw [slcS_both _ _ _ _ _ _ (by decide) (by omega) (by simp only [List.length_cons,List.length_append]; omega),Int.toNat_natCast]
 have e:(1:Int).toNat=1:=rfl
 rw [e,List.take_succ_cons,List.drop_succ_cons,List.drop_zero,List.take_left]
theorem hi1 (c:UInt8) (r:Bs):sliceA true 0 (.str (c :: r)) none (some (.int .i64 1))=some (.str [c]):=by
 rw [slcS_hi _ _ _ _ (by decide) (by simp only [List.length_cons]; omega)]
 rfl
theorem c53 (c:UInt8) (r:Bs) (hr:r.length≤100000):∃ (k:Int) (s:Bs) (i:Int) (n:Int) (b:Bool),G0 109 [.str (c :: r)] []=some (.tup [.agg [.int .i64 k,.str s,.int .i64 i],.int .i64 n,.bool b],[])∧b=(rd (c :: r)).isSome∧∀ x m,rd (c :: r)=some (x,m)→(k,s,i)=x∧n=(m:Int):=by
 have g0:(c :: r)[0]?=some c:=rfl
 by_cases h1:c=92
 ·subst h1
  have h1':(((92:UInt8).toNat:Nat):Int)=92:=rfl
  obtain ⟨x,n,b,y1,y2,y3⟩:=c80 r (by omega)
  have e:rd (92 :: r)=(rdE r).map fun p=>((1,[p.1],0),p.2):=rfl
  refine ⟨1,[UInt8.ofNat x.toNat],0,n,b,?_,?_,?_⟩
  ·refine contract F109 rfl rfl rfl ?_
   simp only [F109,go_sem,op,mv,↓reduceIte,Nat.reduceAdd,Nat.reduceEqDiff,Nat.reduceLT,Int.reduceNeg,Int.cast_ofNat_Int,Int.reduceLT,Int.reduceAdd,Int.reduceSub,Int.reduceLE,Int.reduceEq,Int.reduceToNat,Nat.reduceSub,Nat.reduceMul,Nat.reduceLeDiff,g0,h1',y1,mks1b,bR]
  ·rw [e]
   cases h:rdE r with
   | none=>rw [y3 h]; rfl
   | some p=>rw [(y2 p.1 p.2 h).2.2]; rfl
  ·intro z m hz
   rw [e] at hz
   cases h:rdE r with
   | none=>rw [h] at hz; cases hz
   | some p =>
    obtain ⟨a1,a2,_⟩:=y2 p.1 p.2 h
    rw [h] at hz
    simp only [Option.map_some,Option.some.injEq,Prod.mk.injEq] at hz
    obtain ⟨rfl,rfl⟩:=hz
    refine ⟨?_,a2⟩
    rw [a1]
    simp [bI]
 have h1':¬ (c.toNat:Int)=92:=nat_ne h1
 by_cases h2:c=60
 ·subst h2
  have h2':(((60:UInt8).toNat:Nat):Int)=60:=rfl
  have e:rd (60 :: r)=(match cut 62 r with
   | some (t,_)=>(rdT t).map fun x=>(x,t.length+2)
   | none=>none):=rfl
  have ec:=cut_cons (b:=62) (c:=60) (by decide) r
  cases hc:cut 62 r with
  | none =>
   rw [hc] at e ec
   have q:=ib_none ec
   refine ⟨0,[],0,0,false,?_,by rw [e]; rfl,fun x m h=>(by rw [e] at h; cases h)⟩
   refine contract F109 rfl rfl rfl ?_
   have q':=c81 (60 :: r) 62
   rw [q] at q'
   have q:G0 149 [.str (60 :: r),.int .u8 62] []=some (.int .i64 (-1),[]):=q'
   simp only [F109,go_sem,op,mv,↓reduceIte,Nat.reduceAdd,Nat.reduceEqDiff,Nat.reduceLT,Int.reduceNeg,Int.cast_ofNat_Int,Int.reduceLT,Int.reduceAdd,Int.reduceSub,Int.reduceLE,Int.reduceEq,Int.reduceToNat,Nat.reduceSub,Nat.reduceMul,Nat.reduceLeDiff,g0,h2',q]
  | some p =>
   obtain ⟨t,w⟩:=p
   rw [hc] at e ec
   have q:=ib_some ec
   have q':=c81 (60 :: r) 62
   rw [q] at q'
   have q:G0 149 [.str (60 :: r),.int .u8 62] []=some (.int .i64 ((t.length+1:Nat):Int),[]):=q'
   obtain ⟨hs,_⟩:=cut_spec.1 hc
   have hl:t.length≤100000:=by have:=congrArg List.length hs; simp at this; omega
   obtain ⟨k,s,i,b,y1,y2,y3⟩:=c82 t (by omega)
   have sl:=sl1 60 t (62 :: w)
   rw [← hs] at sl
   have n1:¬ ((t.length+1:Nat):Int) < 0:=by omega
   have w1:IntKind.i64.wrap (((t.length+1:Nat):Int)+1)=((t.length+2:Nat):Int):=by rw [w64 (by omega) (by omega)]; omega
   refine ⟨k,s,i,((t.length+2:Nat):Int),b,?_,?_,?_⟩
   ·refine contract F109 rfl rfl rfl ?_
    simp only [F109,go_sem,op,mv,↓reduceIte,Nat.reduceAdd,Nat.reduceEqDiff,Nat.reduceLT,Int.reduceNeg,Int.cast_ofNat_Int,Int.reduceLT,Int.reduceAdd,Int.reduceSub,Int.reduceLE,Int.reduceEq,Int.reduceToNat,Nat.reduceSub,Nat.reduceMul,Nat.reduceLeDiff,g0,h2',q,n1,sl,y1,w1]
   ·have e:rd (60 :: r)=(rdT t).map fun x=>(x,t.length+2):=e
    rw [e,y2,Option.isSome_map]
   ·intro x m hx
    rw [e] at hx
    obtain ⟨x',hx1,hx2⟩:=Option.map_eq_some_iff.1 hx
    simp only [Prod.mk.injEq] at hx2
    obtain ⟨rfl,rfl⟩:=hx2
    exact ⟨y3 _ hx1,rfl⟩
 have h2':¬ (c.toNat:Int)=60:=nat_ne h2
 by_cases h3:c=123
 ·subst h3
  have h3':(((123:UInt8).toNat:Nat):Int)=123:=rfl
  have e:rd (123 :: r)=(match cut 125 r with
   | some (t,_)=>if isNm t=true then some ((5,t,0),t.length+2) else none
   | none=>none):=rfl
  have ec:=cut_cons (b:=125) (c:=123) (by decide) r
  cases hc:cut 125 r with
  | none =>
   rw [hc] at e ec
   have q:=ib_none ec
   refine ⟨0,[],0,0,false,?_,by rw [e]; rfl,fun x m h=>(by rw [e] at h; cases h)⟩
   refine contract F109 rfl rfl rfl ?_
   have q':=c81 (123 :: r) 125
   rw [q] at q'
   have q:G0 149 [.str (123 :: r),.int .u8 125] []=some (.int .i64 (-1),[]):=q'
   simp only [F109,go_sem,op,mv,↓reduceIte,Nat.reduceAdd,Nat.reduceEqDiff,Nat.reduceLT,Int.reduceNeg,Int.cast_ofNat_Int,Int.reduceLT,Int.reduceAdd,Int.reduceSub,Int.reduceLE,Int.reduceEq,Int.reduceToNat,Nat.reduceSub,Nat.reduceMul,Nat.reduceLeDiff,g0,h3',q]
  | some p =>
   obtain ⟨t,w⟩:=p
   rw [hc] at e ec
   have q:=ib_some ec
   have q':=c81 (123 :: r) 125
   rw [q] at q'
   have q:G0 149 [.str (123 :: r),.int .u8 125] []=some (.int .i64 ((t.length+1:Nat):Int),[]):=q'
   obtain ⟨hs,_⟩:=cut_spec.1 hc
   have hl:t.length≤100000:=by have:=congrArg List.length hs; simp at this; omega
   have sl:=sl1 123 t (125 :: w)
   rw [← hs] at sl
   have n1:¬ ((t.length+1:Nat):Int) < 0:=by omega
   have w1:IntKind.i64.wrap (((t.length+1:Nat):Int)+1)=((t.length+2:Nat):Int):=by rw [w64 (by omega) (by omega)]; omega
   have e:rd (123 :: r)=if isNm t=true then some ((5,t,0),t.length+2) else none:=e
   cases hn:isNm t with
   | false =>
    rw [hn,if_neg (by simp)] at e
    refine ⟨0,[],0,0,false,?_,by rw [e]; rfl,fun x m h=>(by rw [e] at h; cases h)⟩
    refine contract F109 rfl rfl rfl ?_
    simp only [F109,go_sem,op,mv,↓reduceIte,Nat.reduceAdd,Nat.reduceEqDiff,Nat.reduceLT,Int.reduceNeg,Int.cast_ofNat_Int,Int.reduceLT,Int.reduceAdd,Int.reduceSub,Int.reduceLE,Int.reduceEq,Int.reduceToNat,Nat.reduceSub,Nat.reduceMul,Nat.reduceLeDiff,g0,h3',q,n1,sl,c83,hn]
   | true =>
    rw [hn,if_pos rfl] at e
    refine ⟨5,t,0,((t.length+2:Nat):Int),true,?_,by rw [e]; rfl,fun x m h=>(by rw [e] at h; cases h; exact ⟨rfl,rfl⟩)⟩
    refine contract F109 rfl rfl rfl ?_
    simp only [F109,go_sem,op,mv,↓reduceIte,Nat.reduceAdd,Nat.reduceEqDiff,Nat.reduceLT,Int.reduceNeg,Int.cast_ofNat_Int,Int.reduceLT,Int.reduceAdd,Int.reduceSub,Int.reduceLE,Int.reduceEq,Int.reduceToNat,Nat.reduceSub,Nat.reduceMul,Nat.reduceLeDiff,g0,h3',q,n1,sl,c83,hn,w1]
 have h3':¬ (c.toNat:Int)=123:=nat_ne h3
 have e:rd (c :: r)=if plain c=true then some ((1,[c],0),1) else none:=by
  simp only [rd]
  rw [if_neg h1,if_neg h2,if_neg h3]
 refine ⟨1,[c],0,1,plain c,?_,by rw [e]; cases plain c <;> rfl,fun x m h=>(by rw [e] at h; split at h; cases h; exact ⟨rfl,rfl⟩; cases h)⟩
 refine contract F109 rfl rfl rfl ?_
 simp only [F109,go_sem,op,mv,↓reduceIte,Nat.reduceAdd,Nat.reduceEqDiff,Nat.reduceLT,Int.reduceNeg,Int.cast_ofNat_Int,Int.reduceLT,Int.reduceAdd,Int.reduceSub,Int.reduceLE,Int.reduceEq,Int.reduceToNat,Nat.reduceSub,Nat.reduceMul,Nat.reduceLeDiff,g0,h1',h2',h3',hi1,c77']
end Go.Av
set_option linter.unusedSimpArgs false
set_option linter.unusedVariables false
namespace Go.Av
open Go.Nt
set_option linter.unusedSimpArgs false
set_option linter.unusedVariables false
set_option maxHeartbeats 8000000
set_option maxRecDepth 100000
abbrev Tk:=Int × List UInt8 × Int
def tkR (t:Tk):List AV:=[.int .i64 t.1,.str t.2.1,.int .i64 t.2.2]
def tks (l:List Tk):List (List AV):=l.map tkR
theorem tks_len (l:List Tk):(tks l).length=l.length:=by simp [tks]
theorem tks_app (x y:List Tk):tks x++tks y=tks (x++y):=by simp [tks]
theorem tks_nil:tks []=[]:=rfl
theorem tks_at {l:List Tk} {i:Nat} {t:Tk} (h:l[i]?=some t):(tks l)[i]?=some [.int .i64 t.1,.str t.2.1,.int .i64 t.2.2]:=by simp [tks,tkR,h]
def strs (l:List (List UInt8)):List (List AV):=l.map fun s=>[.str s]
theorem strs_len (l:List (List UInt8)):(strs l).length=l.length:=by simp [strs]
theorem strs_at {l:List (List UInt8)} {i:Nat} {s:List UInt8} (h:l[i]?=some s):(strs l)[i]?=some [.str s]:=by simp [strs,h]
theorem tmod_emod (a b:Int) (hb:1≤b):(if a.tmod b < 0 then a.tmod b+b else a.tmod b)=a % b:=by
 have e:=Int.tmod_eq_emod (a:=a) (b:=b)
 have h1:=Int.emod_nonneg a (by omega:b≠0)
 have h2:=Int.emod_lt_of_pos a (by omega:0 < b)
 have hd:¬ (0≤a∨b ∣ a)→a % b≠0:=fun h h0=>h (.inr (Int.dvd_of_emod_eq_zero h0))
 by_cases h:0≤a∨b ∣ a
 ·rw [if_pos h] at e
  rw [e]
  rw [if_neg (by omega)]
  omega
 ·rw [if_neg h] at e
  have:=hd h
  rw [e]
  rw [if_pos (by omega)]
  omega
theorem tmod_bd (a b:Int) (hb:1≤b):-b < a.tmod b∧a.tmod b < b:=by
 have:=tmod_emod a b hb
 have h1:=Int.emod_nonneg a (by omega:b≠0)
 have h2:=Int.emod_lt_of_pos a (by omega:0 < b)
 have h3:=Int.lt_tmod_of_pos a (by omega:0 < b)
 have h4:=Int.tmod_lt_of_pos a (by omega:0 < b)
 omega
theorem c18 (a b:Int) (hb:1≤b) (hb2:b≤1000000):G0 16 [.int .i64 a,.int .i64 b] []=some (.int .i64 (a % b),[]):=by
 refine contract F16 rfl rfl rfl ?_
 have h0:¬ b=0:=by omega
 have h1:=tmod_bd a b hb
 rw [← tmod_emod a b hb]
 simp only [F16,go_sem,op,mv,↓reduceIte,Nat.reduceAdd,Nat.reduceEqDiff,Nat.reduceLT,h0]
 split
 ·rw [w64 (by omega) (by omega)]
 ·rfl
def ints (l:List Int):List (List AV):=l.map fun x=>[.int .i64 x]
theorem ints_length (l:List Int):(ints l).length=l.length:=by simp [ints]
theorem ints_at {l:List Int} {i:Nat} {x:Int} (h:l[i]?=some x):(ints l)[i]?=some [.int .i64 x]:=by simp [ints,h]
theorem ints_nil:ints []=[]:=rfl
def num (l:List Int) (n:Nat):List AV:=[.sl .no 1 (ints l),.int .i64 n]
def nxt (l:List Int) (n:Nat) (m:Int):Int:=(if n < l.length then l.getD n 0 else 0) % m
theorem nxt_bd (l:List Int) (n:Nat) (m:Int) (h:1≤m):0≤nxt l n m∧nxt l n m < m:=⟨Int.emod_nonneg _ (by omega),Int.emod_lt_of_pos _ (by omega)⟩
theorem c41 (l:List Int) (n:Nat) (m:Int) (hn:n≤1000000) (h1:1≤m) (h2:m≤1000000):G0 54 [.ptr 0 0,.int .i64 m] [num l n]=some (.int .i64 (nxt l n m),[num l (n+1)]):=by
 refine contract F54 rfl rfl rfl ?_
 have hw:IntKind.i64.wrap ((n:Int)+1)=((n+1:Nat):Int):=by rw [w64 (by omega) (by omega)]; rfl
 have h0:(0:Int)≤(n:Int):=by omega
 have hnum:refsOk false 1 [[.sl .no 1 (ints l),.int .i64 ((n+1:Nat):Int)]]=true:=rfl
 by_cases h3:n < l.length
 ·have h4:(n:Int) < (l.length:Int):=by omega
  have hr:=ints_at (l:=l) (i:=n) (x:=l.getD n 0) (by simp [List.getD_eq_getElem?_getD,h3])
  simp only [F54,go_sem,op,mv,↓reduceIte,Nat.reduceAdd,Nat.reduceEqDiff,Nat.reduceLT,num,ints_length,h4,h0,hr,hw,c18 _ m h1 h2,nxt,h3,hnum]
 ·have h4:¬ (n:Int) < (l.length:Int):=by omega
  simp only [F54,go_sem,op,mv,↓reduceIte,Nat.reduceAdd,Nat.reduceEqDiff,Nat.reduceLT,num,ints_length,h4,h0,hw,c18 _ m h1 h2,nxt,h3,hnum]

def wds:List (List UInt8):=[[114,101,100],[99,97,114],[82,101,100],[97],[99,97,114,115],[49,44,53],[50,50],[100,111,110,39,116],[46],[33],[32],[32,32],[60],[38],[123],[34],[92],[120,45,121],[10],[61],[125],[62],[9],[98]]
def wd (l:List Int) (n:Nat):List UInt8:=wds.getD (nxt l n 24).toNat []
theorem wd_len (l:List Int) (n:Nat):(wd l n).length≤5:=by
 unfold wd
 have:∀ i,(wds.getD i []).length≤5:=by
  intro i
  by_cases h:i < 24
  ·have:∀ j:Fin 24,(wds.getD j.1 []).length≤5:=by decide
   exact this ⟨i,h⟩
  ·rw [List.getD_eq_getElem?_getD,List.getElem?_eq_none (by simp [wds]; omega)]; simp
 exact this _
theorem c95 (l:List Int) (n:Nat) (hn:n≤1000000):G0 134 [.ptr 0 0] [num l n]=some (.str (wd l n),[num l (n+1)]):=by
 refine contract F134 rfl rfl rfl ?_
 have hm:mksA 1 [.str []] 24 [0,1,2,3,4,5,6,7,8,9,10,11,12,13,14,15,16,17,18,19,20,21,22,23] [.str [114,101,100],.str [99,97,114],.str [82,101,100],.str [97],.str [99,97,114,115],.str [49,44,53],.str [50,50],.str [100,111,110,39,116],.str [46],.str [33],.str [32],.str [32,32],.str [60],.str [38],.str [123],.str [34],.str [92],.str [120,45,121],.str [10],.str [61],.str [125],.str [62],.str [9],.str [98]]=some (.sl .full 1 (strs wds)):=by rfl
 have hb:=nxt_bd l n 24 (by omega)
 have h0:0≤nxt l n 24:=hb.1
 have hr:=strs_at (l:=wds) (i:=(nxt l n 24).toNat) (s:=wd l n) (by
  unfold wd
  rw [List.getD_eq_getElem?_getD,List.getElem?_eq_getElem (by simp [wds]; omega)]; rfl)
 have hnum:refsOk false 1 [num l (n+1)]=true:=rfl
 simp only [F134,go_sem,op,mv,↓reduceIte,Nat.reduceAdd,Nat.reduceEqDiff,Nat.reduceLT,hm,c41 l n 24 hn (by decide) (by decide),h0,hr,hnum]
def lnF (l:List Int):Nat→Nat→List UInt8→List UInt8 × Nat
 | 0,n,out=>(out,n)
 | i+1,n,out=>if out=[] then lnF l i (n+1) (out++wd l n) else lnF l i (n+2) ((if 0 < nxt l (n+1) 3 then out++[32] else out)++wd l n)
theorem l63 (l:List Int):∀ (k n:Nat) (out:List UInt8),n+2 * k≤1000000→out.length+6 * k≤1000000 →
  execX G0 L89_0 (ST [(0,.ptr 0 0),(5,.str out),(6,.int .i64 k)] [] [num l n])=some (.ex 0,ST [(0,.ptr 0 0),(5,.str (lnF l k n out).1),(6,.int .i64 0),(13,.bool false)] [] [num l (lnF l k n out).2])
 | 0,n,out,h1,h2=>by
  rw [Y_loop (L:=L89_0) rfl]
  simp only [go_sem,op,mv,↓reduceIte,Nat.reduceAdd,Nat.reduceEqDiff,Nat.reduceLT,Int.reduceNeg,Int.cast_ofNat_Int,Int.reduceLT,Int.reduceAdd,Int.reduceSub,Int.reduceLE,Int.reduceEq,Int.reduceToNat,Nat.reduceSub,Nat.reduceMul,Nat.reduceLeDiff,Int.lt_irrefl,lnF]
 | k+1,n,out,h1,h2=>by
  have hk:(0:Int) < ((k+1:Nat):Int):=by omega
  have hw:IntKind.i64.wrap (((k+1:Nat):Int) - 1)=(k:Int):=by rw [w64 (by omega) (by omega)]; omega
  have hl:=wd_len l n
  by_cases h3:out=[]
  ·have ih:=l63 l k (n+1) (out++wd l n) (by omega) (by rw [List.length_append]; omega)
   have hc:out.length+(wd l n).length≤140737488355328:=by omega
   subst h3
   rw [Y_loop (L:=L89_0) rfl]
   simp only [go_sem,op,mv,↓reduceIte,Nat.reduceAdd,Nat.reduceEqDiff,Nat.reduceLT,Int.reduceNeg,Int.cast_ofNat_Int,Int.reduceLT,Int.reduceAdd,Int.reduceSub,Int.reduceLE,Int.reduceEq,Int.reduceToNat,Nat.reduceSub,Nat.reduceMul,Nat.reduceLeDiff,hk,c95 l n (by omega),hc,hw,lnF]
   simp only [List.length_nil] at hc
   simp only [go_sem,op,mv,↓reduceIte,Nat.reduceAdd,Nat.reduceEqDiff,Nat.reduceLT,Int.reduceNeg,Int.cast_ofNat_Int,Int.reduceLT,Int.reduceAdd,Int.reduceSub,Int.reduceLE,Int.reduceEq,Int.reduceToNat,Nat.reduceSub,Nat.reduceMul,Nat.reduceLeDiff] at ih
   have hc':(wd l n).length≤140737488355328:=by omega
   simp only [go_sem,op,mv,↓reduceIte,Nat.reduceAdd,Nat.reduceEqDiff,Nat.reduceLT,Int.reduceNeg,Int.cast_ofNat_Int,Int.reduceLT,Int.reduceAdd,Int.reduceSub,Int.reduceLE,Int.reduceEq,Int.reduceToNat,Nat.reduceSub,Nat.reduceMul,Nat.reduceLeDiff,hc',ih]
  ·have hne:(out != [])=true:=by simp [h3]
   have h24:=c41 l (n+1) 3 (by omega) (by decide) (by decide)
   by_cases h4:0 < nxt l (n+1) 3
   ·have ih:=l63 l k (n+2) (out++[32]++wd l n) (by omega) (by simp only [List.length_append,List.length_cons,List.length_nil]; omega)
    have hc:out.length+1≤140737488355328:=by omega
    have hc2:(out++[32]).length+(wd l n).length≤140737488355328:=by simp only [List.length_append,List.length_cons,List.length_nil]; omega
    have e:lnF l (k+1) n out=lnF l k (n+2) (out++[32]++wd l n):=by simp only [lnF,h3,h4,if_true,if_false]
    rw [e,Y_loop (L:=L89_0) rfl]
    simp only [go_sem,op,mv,↓reduceIte,Nat.reduceAdd,Nat.reduceEqDiff,Nat.reduceLT,Int.reduceNeg,Int.cast_ofNat_Int,Int.reduceLT,Int.reduceAdd,Int.reduceSub,Int.reduceLE,Int.reduceEq,Int.reduceToNat,Nat.reduceSub,Nat.reduceMul,Nat.reduceLeDiff,hk,c95 l n (by omega),hne,h24,h4,hc,hc2,hw]
    exact ih
   ·have ih:=l63 l k (n+2) (out++wd l n) (by omega) (by simp only [List.length_append]; omega)
    have hc:out.length+(wd l n).length≤140737488355328:=by omega
    have e:lnF l (k+1) n out=lnF l k (n+2) (out++wd l n):=by simp only [lnF,h3,h4,if_true,if_false]
    rw [e,Y_loop (L:=L89_0) rfl]
    simp only [go_sem,op,mv,↓reduceIte,Nat.reduceAdd,Nat.reduceEqDiff,Nat.reduceLT,Int.reduceNeg,Int.cast_ofNat_Int,Int.reduceLT,Int.reduceAdd,Int.reduceSub,Int.reduceLE,Int.reduceEq,Int.reduceToNat,Nat.reduceSub,Nat.reduceMul,Nat.reduceLeDiff,hk,c95 l n (by omega),hne,h24,h4,hc,hw]
    exact ih
def lineF (l:List Int) (n:Nat) (m:Int):List UInt8 × Nat:=lnF l (nxt l n (m+1)).toNat (n+1) []
theorem c63 (l:List Int) (n:Nat) (m:Int) (hn:n≤900000) (h1:1≤m) (h2:m≤1000):G0 89 [.ptr 0 0,.int .i64 m] [num l n]=some (.str (lineF l n m).1,[num l (lineF l n m).2]):=by
 refine contract F89 rfl rfl rfl ?_
 have hb:=nxt_bd l n (m+1) (by omega)
 have hx:=l63 l (nxt l n (m+1)).toNat (n+1) [] (by omega) (by simp only [List.length_nil]; omega)
 have hc:(((nxt l n (m+1)).toNat:Nat):Int)=nxt l n (m+1):=by omega
 rw [hc] at hx
 have hnum:∀ j,refsOk false 1 [num l j]=true:=fun _=>rfl
 simp only [F89,go_sem,op,mv,↓reduceIte,Nat.reduceAdd,Nat.reduceEqDiff,Nat.reduceLT,w64 (n:=m+1) (by omega) (by omega),c41 l n (m+1) (by omega) (by omega) (by omega),hx,hnum,lineF]
theorem lnF_len (l:List Int):∀ (k n:Nat) (out:List UInt8),(lnF l k n out).1.length≤out.length+6 * k
 | 0,n,out=>by simp [lnF]
 | k+1,n,out=>by
  have hl:=wd_len l n
  simp only [lnF]
  split
  ·have:=lnF_len l k (n+1) (out++wd l n); rw [List.length_append] at this; omega
  ·have:=lnF_len l k (n+2) ((if 0 < nxt l (n+1) 3 then out++[32] else out)++wd l n)
   rw [List.length_append] at this
   split at this
   ·rename_i h; rw [if_pos h]; simp only [List.length_append,List.length_cons,List.length_nil] at *; omega
   ·rename_i h; rw [if_neg h]; omega
def fl (l:List Tk):List AV:=(tks l).flatten
theorem fl_app (x y:List Tk):fl (x++y)=fl x++fl y:=by simp [fl,tks]
theorem fl_one (t:Tk):fl [t]=[.int .i64 t.1,.str t.2.1,.int .i64 t.2.2]:=rfl
theorem fl_cons (t:Tk) (l:List Tk):fl (t :: l)=.int .i64 t.1 :: .str t.2.1 :: .int .i64 t.2.2 :: fl l:=rfl
theorem fl_len:∀ l:List Tk,(fl l).length=l.length * 3
 | []=>rfl
 | t :: l=>by rw [fl_cons]; simp only [List.length_cons,fl_len l]; omega
theorem fl_nown:∀ l:List Tk,(fl l).all nownB=true
 | []=>rfl
 | t :: l=>by rw [fl_cons]; simp only [List.all_cons,fl_nown l,nownB,Bool.and_self]
theorem fl_blk (l:List Tk):blkB (fl l)=true:=by
 cases l with
 | nil=>rfl
 | cons a l=>rfl
theorem fl_at (o:List Tk) (t:Tk) (j:Nat):(fl (o++[t]))[o.length * 3+j]?=[AV.int .i64 t.1,.str t.2.1,.int .i64 t.2.2][j]?:=by
 rw [fl_app,fl_one,List.getElem?_append_right (by rw [fl_len]; omega),fl_len]
 congr 1; omega
theorem fl_put (o:List Tk) (t u:Tk):putL (o.length * 3) [AV.int .i64 u.1,.str u.2.1,.int .i64 u.2.2] (fl (o++[t]))=some (fl (o++[u])):=by
 have:∀ (a:List AV),putL a.length [AV.int .i64 u.1,.str u.2.1,.int .i64 u.2.2] (a++[AV.int .i64 t.1,.str t.2.1,.int .i64 t.2.2])=some (a++[AV.int .i64 u.1,.str u.2.1,.int .i64 u.2.2]):=by
  intro a
  induction a with
  | nil=>rfl
  | cons x a ih=>simp only [List.length_cons,List.cons_append,putL_s,ih,Option.map_some]
 have h:=this (fl o)
 rw [fl_len] at h
 rw [fl_app,fl_one,fl_app,fl_one]
 exact h
theorem rowsC_fl (l:List Tk):rowsC 0 l.length 3 (fl l)=some (tks l):=by
 have h1:∀ l:List Tk,(fl l).all (fun x=>flatB (demV x))=true:=by
  intro l
  induction l with
  | nil=>rfl
  | cons a l ih=>rw [fl_cons]; simp only [List.all_cons,Bool.and_eq_true]; exact ⟨rfl,rfl,rfl,ih⟩
 have h2:∀ l:List Tk,(fl l).map demV=fl l:=by
  intro l
  induction l with
  | nil=>rfl
  | cons a l ih=>rw [fl_cons]; simp only [List.map_cons,ih,demV]
 have h3:∀ l:List Tk,rowsOf 3 l.length (fl l)=tks l:=by
  intro l
  induction l with
  | nil=>rfl
  | cons a l ih=>rw [fl_cons]; simp only [List.length_cons,rowsOf,List.take_succ_cons,List.take_zero,List.drop_succ_cons,List.drop_zero,ih]; rfl
 unfold rowsC
 have h4:((fl l).drop 0).take (l.length * 3)=fl l:=by rw [List.drop_zero]; exact List.take_of_length_le (by rw [fl_len]; exact Nat.le_refl _)
 rw [h4,h2,h3,if_pos ⟨by decide,by rw [fl_len]; omega,h1 l⟩]
def tot (l:List Tk):Nat:=(l.map fun t=>t.2.1.length).sum
theorem tot_nil:tot []=0:=rfl
theorem tot_cons (t:Tk) (l:List Tk):tot (t :: l)=t.2.1.length+tot l:=by simp [tot]
theorem tot_app (x y:List Tk):tot (x++y)=tot x+tot y:=by simp [tot]
theorem tot_pn (f:List It) (x:It):tot (pn f x)≤tot f+x.2.1.length∧(pn f x).length≤f.length+1:=by
 refine ⟨?_,(len_pn f x).2⟩
 unfold pn
 by_cases h:x.1=1
 ·rw [if_pos h]
  split
  ·omega
  ·rcases put_text (f:=f) (x:=(1,x.2.1,0)) rfl with ⟨_,h2⟩ | ⟨g,y,rfl,hy,h2⟩
   ·rw [h2,tot_app]; simp [tot]
   ·rw [h2,tot_app,tot_app]; simp [tot]; omega
 ·rw [if_neg h,tot_app]; simp [tot]
def Stt (v:AV) (sh:List (List AV)) (out:List Tk):Prop:=
 (out=[]∧v=.sl .full 3 []∧sh=[])∨(∃ D o t,out=o++[t]∧v=.ss D.length 0 (o.length+1) 3∧sh=D++[fl (o++[t])])
theorem gD (D:List (List AV)) (c:List AV):(D++[c])[D.length]?=some c:=by simp
theorem sD (D:List (List AV)) (c x:List AV):(D++[c]).set D.length x=D++[x]:=by
 rw [List.set_append_right _ _ (Nat.le_refl _)]; simp
theorem pn_empty {f:List It} {i:Int}:pn f (1,[],i)=f:=rfl
theorem pn_nt {f:List It} {k:Int} {s:Bs} {i:Int} (h:¬ k=1):pn f (k,s,i)=f++[(k,s,i)]:=by unfold pn; rw [if_neg h]
theorem pn_first {s:Bs} {i:Int} (h:s≠[]):pn [] (1,s,i)=[(1,s,0)]:=by simp [pn,h,Nt.put]
theorem pn_join {o:List It} {t:It} {s:Bs} {i:Int} (h:s≠[]) (ht:t.1=1):pn (o++[t]) (1,s,i)=o++[(1,t.2.1++s,0)]:=by simp [pn,h,Nt.put,ht]
theorem pn_new {o:List It} {t:It} {s:Bs} {i:Int} (h:s≠[]) (ht:¬ t.1=1):pn (o++[t]) (1,s,i)=o++[t]++[(1,s,0)]:=by simp [pn,h,Nt.put,ht]
theorem l57 (f:List Tk) (hf:f.length≤100000):∀ (k i:Nat) (out:List Tk) (v:AV) (sh:List (List AV)),i+k=f.length→out.length≤i→tot out+tot (f.drop i)≤1000000→Stt v sh out →
  ∃ v' sh',Stt v' sh' ((f.drop i).foldl pn out) ∧
   execX G0 L99_0 (ST [(0,.sl .no 3 (tks f)),(3,v),(8,.int .i64 f.length),(9,.int .i64 i)] [] sh)=some (.ex 0,ST [(0,.sl .no 3 (tks f)),(3,v'),(8,.int .i64 f.length),(9,.int .i64 f.length),(10,.bool false)] [] sh')
 | 0,i,out,v,sh,h1,h2,h3,hst=>by
  have:i=f.length:=by omega
  subst this
  refine ⟨v,sh,by rw [List.drop_of_length_le (Nat.le_refl _)]; exact hst,?_⟩
  rcases hst with ⟨rfl,rfl,rfl⟩ | ⟨D,o,t,rfl,rfl,rfl⟩
  ·rw [Y_loop (L:=L99_0) rfl]
   simp only [go_sem,op,mv,↓reduceIte,Nat.reduceAdd,Nat.reduceEqDiff,Nat.reduceLT,Int.reduceNeg,Int.cast_ofNat_Int,Int.reduceLT,Int.reduceAdd,Int.reduceSub,Int.reduceLE,Int.reduceEq,Int.reduceToNat,Nat.reduceSub,Nat.reduceMul,Nat.reduceLeDiff,Int.lt_irrefl]
  ·rw [Y_loop (L:=L99_0) rfl]
   simp only [go_sem,op,mv,↓reduceIte,Nat.reduceAdd,Nat.reduceEqDiff,Nat.reduceLT,Int.reduceNeg,Int.cast_ofNat_Int,Int.reduceLT,Int.reduceAdd,Int.reduceSub,Int.reduceLE,Int.reduceEq,Int.reduceToNat,Nat.reduceSub,Nat.reduceMul,Nat.reduceLeDiff,Int.lt_irrefl]
 | k+1,i,out,v,sh,h1,h2,h3,hst=>by
  have hi:i < f.length:=by omega
  have h4:(i:Int) < (f.length:Int):=by omega
  have h0:(0:Int)≤(i:Int):=by omega
  have hw:IntKind.i64.wrap ((i:Int)+1)=((i+1:Nat):Int):=by rw [w64 (by omega) (by omega)]; rfl
  have hg:f[i]?=some f[i]:=List.getElem?_eq_getElem hi
  have hd:f.drop i=f[i] :: f.drop (i+1):=List.drop_eq_getElem_cons hi
  generalize f[i]=T at hg hd
  have hr:=tks_at hg
  obtain ⟨kk,s,id⟩:=T
  rw [hd] at h3 ⊢
  rw [tot_cons] at h3
  simp only [List.foldl_cons]
  simp only [] at h3
  by_cases c1:kk=1
  ·by_cases c2:s=[]
   ·subst c1 c2
    rw [pn_empty]
    obtain ⟨v',sh',p1,p4⟩:=l57 f hf k (i+1) out v sh (by omega) (by omega) (by simp only [List.length_nil] at h3; omega) hst
    refine ⟨v',sh',p1,?_⟩
    rcases hst with ⟨rfl,rfl,rfl⟩ | ⟨D,o,t,rfl,rfl,rfl⟩
    ·rw [Y_loop (L:=L99_0) rfl]
     simp only [go_sem,op,mv,↓reduceIte,Nat.reduceAdd,Nat.reduceEqDiff,Nat.reduceLT,Int.reduceNeg,Int.cast_ofNat_Int,Int.reduceLT,Int.reduceAdd,Int.reduceSub,Int.reduceLE,Int.reduceEq,Int.reduceToNat,Nat.reduceSub,Nat.reduceMul,Nat.reduceLeDiff,h4,h0,hr,hw]
     exact p4
    ·rw [Y_loop (L:=L99_0) rfl]
     simp only [go_sem,op,mv,↓reduceIte,Nat.reduceAdd,Nat.reduceEqDiff,Nat.reduceLT,Int.reduceNeg,Int.cast_ofNat_Int,Int.reduceLT,Int.reduceAdd,Int.reduceSub,Int.reduceLE,Int.reduceEq,Int.reduceToNat,Nat.reduceSub,Nat.reduceMul,Nat.reduceLeDiff,h4,h0,hr,hw]
     exact p4
   ·subst c1
    have hne:(s == [])=false:=by simp [c2]
    rcases hst with ⟨rfl,rfl,rfl⟩ | ⟨D,o,t,rfl,rfl,rfl⟩
    ·rw [pn_first c2]
     obtain ⟨v',sh',p1,p4⟩:=l57 f hf k (i+1) [(1,s,0)] (.ss 0 0 1 3) [fl [(1,s,0)]] (by omega) (by simp) (by simp only [tot_cons,tot_nil] at *; first | done | omega) (.inr ⟨[],[],(1,s,0),rfl,rfl,rfl⟩)
     refine ⟨v',sh',p1,?_⟩
     have ha:appOK 32 1=true:=appOK_le (by decide) (by decide)
     rw [Y_loop (L:=L99_0) rfl]
     simp only [go_sem,op,mv,↓reduceIte,Nat.reduceAdd,Nat.reduceEqDiff,Nat.reduceLT,Int.reduceNeg,Int.cast_ofNat_Int,Int.reduceLT,Int.reduceAdd,Int.reduceSub,Int.reduceLE,Int.reduceEq,Int.reduceToNat,Nat.reduceSub,Nat.reduceMul,Nat.reduceLeDiff,h4,h0,hr,hw,hne,ha,Int.lt_irrefl]
     exact p4
    ·have hpos:(0:Int) < ((o.length+1:Nat):Int):=by omega
     have hlt:((o.length:Nat):Int) < ((o.length+1:Nat):Int):=by omega
     have hge:(0:Int)≤((o.length:Nat):Int):=by omega
     have hw3:IntKind.i64.wrap (((o.length+1:Nat):Int) - 1)=((o.length:Nat):Int):=by rw [w64 (by omega) (by simp at h2; omega)]; omega
     have hat0:(fl (o++[t]))[o.length * 3]?=some (.int .i64 t.1):=fl_at o t 0
     have hat1:(fl (o++[t]))[o.length * 3+1]?=some (.str t.2.1):=fl_at o t 1
     by_cases c3:t.1=1
     ·rw [pn_join c2 c3]
      have hc:t.2.1.length+s.length≤140737488355328:=by simp only [tot_app,tot_cons,tot_nil] at h3; omega
      have hb:=fl_blk (o++[t])
      have hp:putL (o.length * 3) [.int .i64 1,.str (t.2.1++s),.int .i64 0] (fl (o++[t]))=some (fl (o++[(1,t.2.1++s,0)])):=fl_put o t (1,t.2.1++s,0)
      obtain ⟨v',sh',p1,p4⟩:=l57 f hf k (i+1) (o++[(1,t.2.1++s,0)]) (.ss D.length 0 (o.length+1) 3) (D++[fl (o++[(1,t.2.1++s,0)])]) (by omega) (by simp at h2 ⊢; omega) (by simp only [tot_app,tot_cons,tot_nil,List.length_append] at *; omega) (.inr ⟨D,o,_,rfl,rfl,rfl⟩)
      refine ⟨v',sh',p1,?_⟩
      rw [Y_loop (L:=L99_0) rfl]
      simp only [go_sem,op,mv,↓reduceIte,Nat.reduceAdd,Nat.reduceEqDiff,Nat.reduceLT,Int.reduceNeg,Int.cast_ofNat_Int,Int.reduceLT,Int.reduceAdd,Int.reduceSub,Int.reduceLE,Int.reduceEq,Int.reduceToNat,Nat.reduceSub,Nat.reduceMul,Nat.reduceLeDiff,h4,h0,hr,hw,hne,hpos,hlt,hge,hw3,gD,sD,hat0,hat1,c3,Nat.add_zero,hc,hb,hp]
      exact p4
     ·rw [pn_new c2 c3]
      have h6:(o.length+1) * 3=(fl (o++[t])).length:=by rw [fl_len]; simp
      have ha:appOK 32 (o.length+1+1)=true:=appOK_le (by decide) (by simp at h2; omega)
      have hb:=fl_blk (o++[t])
      have hn:=fl_nown (o++[t])
      have e6:fl (o++[t])++[[AV.int .i64 1,.str s,.int .i64 0]].flatten=fl (o++[t]++[(1,s,0)]):=by rw [fl_app (o++[t])]; rfl
      have eL:(D++[fl (o++[t])]).length=(D++[dead]).length:=by simp
      obtain ⟨v',sh',p1,p4⟩:=l57 f hf k (i+1) (o++[t]++[(1,s,0)]) (.ss (D++[dead]).length 0 (o.length+1+1) 3) ((D++[dead])++[fl (o++[t]++[(1,s,0)])]) (by omega) (by simp at h2 ⊢; omega) (by simp only [tot_app,tot_cons,tot_nil] at *; omega) (.inr ⟨D++[dead],o++[t],(1,s,0),rfl,by simp,rfl⟩)
      refine ⟨v',sh',p1,?_⟩
      rw [Y_loop (L:=L99_0) rfl]
      simp only [go_sem,op,mv,↓reduceIte,Nat.reduceAdd,Nat.reduceEqDiff,Nat.reduceLT,Int.reduceNeg,Int.cast_ofNat_Int,Int.reduceLT,Int.reduceAdd,Int.reduceSub,Int.reduceLE,Int.reduceEq,Int.reduceToNat,Nat.reduceSub,Nat.reduceMul,Nat.reduceLeDiff,h4,h0,hr,hw,hne,hpos,hlt,hge,hw3,gD,sD,hat0,hat1,c3,Nat.add_zero,ha,hb,hn,h6,eL]
      rw [e6]
      exact p4
  ·rw [pn_nt c1]
   rcases hst with ⟨rfl,rfl,rfl⟩ | ⟨D,o,t,rfl,rfl,rfl⟩
   ·rw [List.nil_append]
    obtain ⟨v',sh',p1,p4⟩:=l57 f hf k (i+1) [(kk,s,id)] (.ss 0 0 1 3) [fl [(kk,s,id)]] (by omega) (by simp) (by simp only [tot_cons,tot_nil] at *; first | done | omega) (.inr ⟨[],[],(kk,s,id),rfl,rfl,rfl⟩)
    refine ⟨v',sh',p1,?_⟩
    have ha:appOK 32 1=true:=appOK_le (by decide) (by decide)
    rw [Y_loop (L:=L99_0) rfl]
    simp only [go_sem,op,mv,↓reduceIte,Nat.reduceAdd,Nat.reduceEqDiff,Nat.reduceLT,Int.reduceNeg,Int.cast_ofNat_Int,Int.reduceLT,Int.reduceAdd,Int.reduceSub,Int.reduceLE,Int.reduceEq,Int.reduceToNat,Nat.reduceSub,Nat.reduceMul,Nat.reduceLeDiff,h4,h0,hr,hw,c1,ha]
    exact p4
   ·have h6:(o.length+1) * 3=(fl (o++[t])).length:=by rw [fl_len]; simp
    have ha:appOK 32 (o.length+1+1)=true:=appOK_le (by decide) (by simp at h2; omega)
    have hb:=fl_blk (o++[t])
    have hn:=fl_nown (o++[t])
    have e6:fl (o++[t])++[[AV.int .i64 kk,.str s,.int .i64 id]].flatten=fl (o++[t]++[(kk,s,id)]):=by rw [fl_app (o++[t])]; rfl
    have eL:(D++[fl (o++[t])]).length=(D++[dead]).length:=by simp
    obtain ⟨v',sh',p1,p4⟩:=l57 f hf k (i+1) (o++[t]++[(kk,s,id)]) (.ss (D++[dead]).length 0 (o.length+1+1) 3) ((D++[dead])++[fl (o++[t]++[(kk,s,id)])]) (by omega) (by simp at h2 ⊢; omega) (by simp only [tot_app,tot_cons,tot_nil] at *; omega) (.inr ⟨D++[dead],o++[t],(kk,s,id),rfl,by simp,rfl⟩)
    refine ⟨v',sh',p1,?_⟩
    rw [Y_loop (L:=L99_0) rfl]
    simp only [go_sem,op,mv,↓reduceIte,Nat.reduceAdd,Nat.reduceEqDiff,Nat.reduceLT,Int.reduceNeg,Int.cast_ofNat_Int,Int.reduceLT,Int.reduceAdd,Int.reduceSub,Int.reduceLE,Int.reduceEq,Int.reduceToNat,Nat.reduceSub,Nat.reduceMul,Nat.reduceLeDiff,h4,h0,hr,hw,c1,gD,sD,ha,hb,hn,h6,eL]
    rw [e6]
    exact p4

theorem c57 (f:List Tk) (hf:f.length≤100000) (ht:tot f≤1000000):G0 99 [.sl .no 3 (tks f)] []=some (.sl .no 3 (tks (nrm f)),[]):=by
 obtain ⟨v,sh,p1,p4⟩:=l57 f hf f.length 0 [] (.sl .full 3 []) [] (by omega) (by simp) (by rw [List.drop_zero,tot_nil]; omega) (.inl ⟨rfl,rfl,rfl⟩)
 rw [List.drop_zero] at p1
 have p1:Stt v sh (nrm f):=p1
 generalize nrm f=g at p1 ⊢
 refine contract F99 rfl rfl rfl ?_
 simp only [go_sem,op,mv,↓reduceIte,Nat.reduceAdd,Nat.reduceEqDiff,Nat.reduceLT,Int.reduceNeg,Int.cast_ofNat_Int,Int.reduceLT,Int.reduceAdd,Int.reduceSub,Int.reduceLE,Int.reduceEq,Int.reduceToNat,Nat.reduceSub,Nat.reduceMul,Nat.reduceLeDiff] at p4
 rcases p1 with ⟨rfl,rfl,rfl⟩ | ⟨D,o,t,rfl,rfl,rfl⟩
 ·simp only [F99,go_sem,op,mv,↓reduceIte,Nat.reduceAdd,Nat.reduceEqDiff,Nat.reduceLT,Int.reduceNeg,Int.cast_ofNat_Int,Int.reduceLT,Int.reduceAdd,Int.reduceSub,Int.reduceLE,Int.reduceEq,Int.reduceToNat,Nat.reduceSub,Nat.reduceMul,Nat.reduceLeDiff,tks_len,p4,tks_nil]
 ·have hr:=rowsC_fl (o++[t])
  simp only [List.length_append,List.length_cons,List.length_nil,Nat.zero_add] at hr
  have hs:sameDead [] (D++[fl (o++[t])])=true:=rfl
  have hk:refsOk false 0 (D++[fl (o++[t])])=true:=rfl
  simp only [F99,go_sem,op,mv,↓reduceIte,Nat.reduceAdd,Nat.reduceEqDiff,Nat.reduceLT,Int.reduceNeg,Int.cast_ofNat_Int,Int.reduceLT,Int.reduceAdd,Int.reduceSub,Int.reduceLE,Int.reduceEq,Int.reduceToNat,Nat.reduceSub,Nat.reduceMul,Nat.reduceLeDiff,tks_len,p4,gD,hr,hs,hk,Nat.zero_le]
theorem c37 (f g:List Tk) (hf:f.length+g.length≤100000) (ht:tot f+tot g≤1000000):G0 58 [.sl .no 3 (tks f),.sl .no 3 (tks g)] []=some (.sl .no 3 (tks (nrm (f++g))),[]):=by
 have q3:=c57 (f++g) (by simpa using hf) (by rw [tot_app]; exact ht)
 refine contract F58 rfl rfl rfl ?_
 have ha:appOK 32 f.length=true:=appOK_le (by decide) (by omega)
 have ha2:appOK 32 (f.length+g.length)=true:=appOK_le (by decide) (by omega)
 simp only [F58,go_sem,op,mv,↓reduceIte,Nat.reduceAdd,Nat.reduceEqDiff,Nat.reduceLT,appA_gen .full .no (by decide) 3 32 (by decide),appA_gen .own .no (by decide) 3 32 (by decide),tks_len,ha,ha2,tks_app,q3]
/-- one item more -/
theorem c37x {f:List Tk} (hv:VL f) (x:Tk) (hf:f.length≤10000) (ht:tot f+x.2.1.length≤100000):G0 58 [.sl .no 3 (tks f),.sl .no 3 [[.int .i64 x.1,.str x.2.1,.int .i64 x.2.2]]] []=some (.sl .no 3 (tks (pn f x)),[]):=by
 have:=c37 f [x] (by simp only [List.length_cons,List.length_nil]; omega) (by rw [tot_cons,tot_nil]; omega)
 rw [nrm_snoc hv] at this
 exact this
end Go.Av
namespace Go.Av
open Go.Nt
set_option linter.unusedSimpArgs false
set_option linter.unusedVariables false
set_option maxHeartbeats 8000000
set_option maxRecDepth 100000
theorem lnF_n (l:List Int):∀ (k n:Nat) (out:List UInt8),(lnF l k n out).2≤n+2 * k
 | 0,n,out=>by simp [lnF]
 | k+1,n,out=>by
  simp only [lnF]
  split
  ·have:=lnF_n l k (n+1) (out++wd l n); omega
  ·have:=lnF_n l k (n+2) ((if 0 < nxt l (n+1) 3 then out++[32] else out)++wd l n); omega
theorem line3 (l:List Int) (n:Nat):(lineF l n 3).1.length≤18∧(lineF l n 3).2≤n+10:=by
 have hb:=nxt_bd l n 4 (by omega)
 have h1:=lnF_len l (nxt l n 4).toNat (n+1) []
 have h2:=lnF_n l (nxt l n 4).toNat (n+1) []
 simp only [List.length_nil] at h1
 show (lnF l (nxt l n 4).toNat (n+1) []).1.length≤18∧(lnF l (nxt l n 4).toNat (n+1) []).2≤n+10
 omega
def tbA:List (List UInt8):=[[110],[110,97,109,101],[120,49]]
def tbB:List (List UInt8):=[[98,114],[105,109,103,32,97]]
def tbC:List (List UInt8):=[[98],[105],[97,32,104,61,49]]
theorem tb_at (tb:List (List UInt8)) (hl:∀ i,(tb.getD i []).length≤5) (l:List Int) (n:Nat) (m:Int) (hm:1≤m) (h:m=(tb.length:Int)):∃ x:List UInt8,x∈tb∧x.length≤5∧(strs tb)[(nxt l n m).toNat]?=some [.str x]∧0≤nxt l n m:=by
 have hb:=nxt_bd l n m hm
 refine ⟨tb.getD (nxt l n m).toNat [],?_,hl _,?_,hb.1⟩
 ·rw [List.getD_eq_getElem?_getD,List.getElem?_eq_getElem (by omega)]; exact List.getElem_mem _
 apply strs_at
 rw [List.getD_eq_getElem?_getD,List.getElem?_eq_getElem (by omega)]; rfl
theorem tbA5:∀ i,(tbA.getD i []).length≤5
 | 0=>by decide
 | 1=>by decide
 | 2=>by decide
 | i+3=>by simp [tbA]
theorem tbB5:∀ i,(tbB.getD i []).length≤5
 | 0=>by decide
 | 1=>by decide
 | i+2=>by simp [tbB]
theorem tbC5:∀ i,(tbC.getD i []).length≤5
 | 0=>by decide
 | 1=>by decide
 | 2=>by decide
 | i+3=>by simp [tbC]
theorem tbA_nm:∀ x∈tbA,isNm x=true:=by decide
theorem tbB_c:∀ x∈tbB,isC x=true:=by decide
theorem tbC_c:∀ x∈tbC,isC x=true:=by decide
theorem split_at {l:List Tk} {j:Nat} {t:Tk} (h:l[j]?=some t):l=l.take j++t :: l.drop (j+1):=by
 have hj:j < l.length:=by
  by_cases q:j < l.length
  ·exact q
  ·rw [List.getElem?_eq_none (by omega)] at h; cases h
 rw [List.getElem?_eq_getElem hj] at h
 simp only [Option.some.injEq] at h
 conv=>lhs; rw [← List.take_append_drop j l,List.drop_eq_getElem_cons hj,h]
theorem len_le:∀ f:List Tk,len f≤tot f+f.length
 | []=>by simp [len,tot]
 | t :: f=>by
  have ih:=len_le f
  have e:len (t :: f)=wid t+len f:=by simp [len]
  have hw:wid t≤t.2.1.length+1:=by unfold wid; split <;> omega
  rw [e,tot_cons,List.length_cons]
  omega
theorem mA:mksA 1 [.str []] 3 [0,1,2] [.str [110],.str [110,97,109,101],.str [120,49]]=some (.sl .full 1 (strs tbA)):=by rfl
theorem mB:mksA 1 [.str []] 2 [0,1] [.str [98,114],.str [105,109,103,32,97]]=some (.sl .full 1 (strs tbB)):=by rfl
theorem mC:mksA 1 [.str []] 3 [0,1,2] [.str [98],.str [105],.str [97,32,104,61,49]]=some (.sl .full 1 (strs tbC)):=by rfl
theorem num_ok (l:List Int) (n:Nat):refsOk false 1 [num l n]=true:=rfl
end Go.Av
namespace Go.Av
open Go.Nt
set_option linter.unusedSimpArgs false
set_option linter.unusedVariables false
set_option maxHeartbeats 8000000
set_option maxRecDepth 100000
theorem len_cons (t:Tk) (f:List Tk):len (t :: f)=wid t+len f:=by simp [len]
theorem len_nil:len []=0:=rfl
abbrev cap47:Nat:=140737488355328
theorem l67 (f:List Tk) (hl:f.length≤10000) (hb:∀ t∈f,t.2.1.length≤cap47):∀ (k i n:Nat),i+k=f.length→n≤i * cap47 →
  execX G0 L100_0 (ST [(3,.int .i64 n),(6,.sl .no 3 (tks f)),(7,.int .i64 f.length),(8,.int .i64 i)] [] [])=some (.ex 0,ST [(3,.int .i64 ((n+len (f.drop i):Nat):Int)),(6,.sl .no 3 (tks f)),(7,.int .i64 f.length),(8,.int .i64 f.length),(9,.bool false)] [] [])
 | 0,i,n,h,hn=>by
  have:i=f.length:=by omega
  subst this
  rw [Y_loop (L:=L100_0) rfl]
  simp only [go_sem,op,mv,↓reduceIte,Nat.reduceAdd,Nat.reduceEqDiff,Nat.reduceLT,Int.lt_irrefl,List.drop_length,len_nil,Nat.add_zero]
 | k+1,i,n,h,hn=>by
  have hi:i < f.length:=by omega
  have h4:(i:Int) < (f.length:Int):=by omega
  have h0:(0:Int)≤(i:Int):=by omega
  have hw:IntKind.i64.wrap ((i:Int)+1)=((i+1:Nat):Int):=by rw [w64 (by omega) (by omega)]; rfl
  have hg:f[i]?=some f[i]:=List.getElem?_eq_getElem hi
  have hd:f.drop i=f[i] :: f.drop (i+1):=List.drop_eq_getElem_cons hi
  have hm:=hb _ (List.getElem_mem hi)
  generalize f[i]=T at hg hd hm
  have hr:=tks_at hg
  obtain ⟨kk,s,id⟩:=T
  simp only [] at hm hr
  have c96:=c96 kk s id
  have hwd:wid (kk,s,id)≤s.length+1:=by unfold wid; split <;> (first | omega | (simp only []; omega))
  have hwd2:wid (kk,s,id)≤cap47:=by unfold wid cap47; split <;> (first | omega | (simp only []; omega))
  rw [hd,len_cons]
  generalize wid (kk,s,id)=w at *
  simp only [cap47] at *
  have hw2:IntKind.i64.wrap ((n:Int)+(w:Int))=((n+w:Nat):Int):=by rw [w64 (by omega) (by omega)]; rfl
  have ih:=l67 f hl hb k (i+1) (n+w) (by omega) (by simp only [cap47]; omega)
  rw [Y_loop (L:=L100_0) rfl]
  simp only [go_sem,op,mv,↓reduceIte,Nat.reduceAdd,Nat.reduceEqDiff,Nat.reduceLT,h4,h0,hr,hw,c96,hw2]
  rw [Nat.add_assoc] at ih
  exact ih
theorem c67 (f:List Tk) (hl:f.length≤10000) (hb:∀ t∈f,t.2.1.length≤cap47):G0 100 [.sl .no 3 (tks f)] []=some (.int .i64 (len f:Nat),[]):=by
 refine contract F100 rfl rfl rfl ?_
 have x:=l67 f hl hb f.length 0 0 (by omega) (by omega)
 have ec:((0:Nat):Int)=0:=rfl
 rw [ec] at x
 simp only [Nat.zero_add,List.drop_zero] at x
 simp only [F100,go_sem,op,mv,↓reduceIte,Nat.reduceAdd,Nat.reduceEqDiff,Nat.reduceLT,tks_len,x]
/-- does an earlier item allow this one, by its number -/
theorem l70 (B:List Tk) (hl:B.length≤1000000) (hb:∀ t∈B,t.1=2→t.2.1.length≤1000000) (k0:Int) (s0:Bs) (i0:Int):∀ (k i:Nat),i+k=B.length →
  ((B.drop i).any (clash (k0,s0,i0))=false→execX G0 L103_0 (ST [(3,.loc 3 0),(7,.sl .no 3 (tks B)),(8,.int .i64 B.length),(9,.int .i64 i)] [(3,some [.int .i64 k0,.str s0,.int .i64 i0])] [])=some (.ex 0,ST [(3,.loc 3 0),(7,.sl .no 3 (tks B)),(8,.int .i64 B.length),(9,.int .i64 B.length),(10,.bool false)] [(3,some [.int .i64 k0,.str s0,.int .i64 i0])] [])) ∧
  ((B.drop i).any (clash (k0,s0,i0))=true→∃ l' m',execX G0 L103_0 (ST [(3,.loc 3 0),(7,.sl .no 3 (tks B)),(8,.int .i64 B.length),(9,.int .i64 i)] [(3,some [.int .i64 k0,.str s0,.int .i64 i0])] [])=some (.ret,ST l' m' [])∧look .any l' 4=.bool false)
 | 0,i,h=>by
  have:i=B.length:=by omega
  subst this
  refine ⟨fun _=>?_,fun h=>(by simp at h)⟩
  rw [Y_loop (L:=L103_0) rfl]
  simp only [go_sem,op,mv,↓reduceIte,Nat.reduceAdd,Nat.reduceEqDiff,Nat.reduceLT,Int.lt_irrefl]
 | k+1,i,h=>by
  have hi:i < B.length:=by omega
  have h4:(i:Int) < (B.length:Int):=by omega
  have h0:(0:Int)≤(i:Int):=by omega
  have hw:IntKind.i64.wrap ((i:Int)+1)=((i+1:Nat):Int):=by rw [w64 (by omega) (by omega)]; rfl
  have hg:B[i]?=some B[i]:=List.getElem?_eq_getElem hi
  have hd:B.drop i=B[i] :: B.drop (i+1):=List.drop_eq_getElem_cons hi
  have hm:=hb _ (List.getElem_mem hi)
  generalize B[i]=T at hg hd hm
  have hr:=tks_at hg
  obtain ⟨kk,s,id⟩:=T
  simp only [] at hm hr
  have c69:=c69 kk s id
  have ih:=l70 B hl hb k0 s0 i0 k (i+1) (by omega)
  rw [hd,List.any_cons]
  have ec:clash (k0,s0,i0) (kk,s,id)=(isTag (kk,s,id) && decide (id=i0) && !(decide (k0=3) && decide (kk=2) && (nameOf s == s0))):=rfl
  have step:clash (k0,s0,i0) (kk,s,id)=false→execX G0 L103_0 (ST [(3,.loc 3 0),(7,.sl .no 3 (tks B)),(8,.int .i64 B.length),(9,.int .i64 i)] [(3,some [.int .i64 k0,.str s0,.int .i64 i0])] [])=execX G0 L103_0 (ST [(3,.loc 3 0),(7,.sl .no 3 (tks B)),(8,.int .i64 B.length),(9,.int .i64 ((i+1:Nat):Int))] [(3,some [.int .i64 k0,.str s0,.int .i64 i0])] []):=by
   intro hc
   rw [ec] at hc
   conv=>lhs; rw [Y_loop (L:=L103_0) rfl]
   cases ht:isTag (kk,s,id) with
   | false =>
    rw [ht] at c69
    simp only [go_sem,op,mv,↓reduceIte,Nat.reduceAdd,Nat.reduceEqDiff,Nat.reduceLT,h4,h0,hr,hw,c69]
   | true =>
    rw [ht] at c69 hc
    by_cases h1:id=i0
    ·subst h1
     simp only [decide_true,Bool.true_and,Bool.not_eq_false',Bool.and_eq_true,decide_eq_true_eq,beq_iff_eq] at hc
     obtain ⟨⟨rfl,rfl⟩,h3⟩:=hc
     have c98:=c98 s (hm rfl)
     rw [h3] at c98
     have e:(s0 != s0)=false:=by simp
     simp only [go_sem,op,mv,↓reduceIte,Nat.reduceAdd,Nat.reduceEqDiff,Nat.reduceLT,h4,h0,hr,hw,c69,c98,e]
    ·simp only [go_sem,op,mv,↓reduceIte,Nat.reduceAdd,Nat.reduceEqDiff,Nat.reduceLT,h4,h0,hr,hw,c69,h1]
  cases hc:clash (k0,s0,i0) (kk,s,id) with
  | false =>
   rw [step hc,Bool.false_or]
   exact ih
  | true =>
   rw [Bool.true_or]
   refine ⟨fun q=>(by cases q),fun _=>?_⟩
   rw [ec] at hc
   simp only [Bool.and_eq_true,decide_eq_true_eq,Bool.not_eq_true'] at hc
   obtain ⟨⟨ht,rfl⟩,hx⟩:=hc
   rw [ht] at c69
   by_cases h1:k0=3
   ·subst h1
    by_cases h2:kk=2
    ·subst h2
     have c98:=c98 s (hm rfl)
     simp only [decide_true,Bool.true_and,beq_eq_false_iff_ne] at hx
     have e:(nameOf s != s0)=true:=by simp [hx]
     refine Exists.intro ?_ (Exists.intro ?_ (And.intro ?_ ?_))
     rotate_left 2
     ·rw [Y_loop (L:=L103_0) rfl]
      simp only [go_sem,op,mv,↓reduceIte,Nat.reduceAdd,Nat.reduceEqDiff,Nat.reduceLT,h4,h0,hr,hw,c69,c98,e]
      rfl
     ·rfl
    ·refine Exists.intro ?_ (Exists.intro ?_ (And.intro ?_ ?_))
     rotate_left 2
     ·rw [Y_loop (L:=L103_0) rfl]
      simp only [go_sem,op,mv,↓reduceIte,Nat.reduceAdd,Nat.reduceEqDiff,Nat.reduceLT,h4,h0,hr,hw,c69,h2]
      rfl
     ·rfl
   ·refine Exists.intro ?_ (Exists.intro ?_ (And.intro ?_ ?_))
    rotate_left 2
    ·rw [Y_loop (L:=L103_0) rfl]
     simp only [go_sem,op,mv,↓reduceIte,Nat.reduceAdd,Nat.reduceEqDiff,Nat.reduceLT,h4,h0,hr,hw,c69,h1]
     rfl
    ·rfl
theorem c70 (B:List Tk) (hl:B.length≤1000000) (hb:∀ t∈B,t.1=2→t.2.1.length≤1000000) (k0:Int) (s0:Bs) (i0:Int):G0 103 [.sl .no 3 (tks B),.agg [.int .i64 k0,.str s0,.int .i64 i0]] []=some (.bool (fitsB B (k0,s0,i0)),[]):=by
 refine contract F103 rfl rfl rfl ?_
 obtain ⟨x1,x2⟩:=l70 B hl hb k0 s0 i0 B.length 0 (by omega)
 have ec:((0:Nat):Int)=0:=rfl
 rw [List.drop_zero,ec] at x1 x2
 unfold fitsB
 cases h:B.any (clash (k0,s0,i0)) with
 | false=>simp only [F103,go_sem,op,mv,↓reduceIte,Nat.reduceAdd,Nat.reduceEqDiff,Nat.reduceLT,tks_len,x1 h]
 | true =>
  obtain ⟨l',m',y1,y2⟩:=x2 h
  simp only [F103,go_sem,op,mv,↓reduceIte,Nat.reduceAdd,Nat.reduceEqDiff,Nat.reduceLT,tks_len,y1,y2]
end Go.Av
namespace Go.Av
open Go.Nt
set_option linter.unusedSimpArgs false
set_option linter.unusedVariables false
set_option maxHeartbeats 8000000
set_option maxRecDepth 100000
theorem lastK_take {f:List Tk} {i:Nat} {y:Tk} (h:f[i]?=some y):lastK (f.take (i+1))=y.1:=by
 have hi:i < f.length:=by
  by_cases q:i < f.length
  ·exact q
  ·rw [List.getElem?_eq_none (by omega)] at h; cases h
 rw [List.getElem?_eq_getElem hi] at h
 simp only [Option.some.injEq] at h
 rw [List.take_succ_eq_append_getElem hi,h,lastK_snoc]
theorem ne_nil_t {s:Bs} (h:s≠[]):(s != ([]:Bs))=true:=by simp [h]
theorem c68 (f:List Tk) (hl:f.length≤1000000) (i:Nat) (k:Int) (s:Bs) (id:Int) (hi:f[i]?=some (k,s,id)):G0 101 [.sl .no 3 (tks f),.int .i64 i] []=some (.bool (wfB (f.take i) (k,s,id)),[]):=by
 refine contract F101 rfl rfl rfl ?_
 have h0:(0:Int)≤(i:Int):=by omega
 have hlt:i < f.length:=by
  by_cases q:i < f.length
  ·exact q
  ·rw [List.getElem?_eq_none (by omega)] at hi; cases hi
 have hr:=tks_at hi
 simp only [] at hr
 have z0:((([]:Bs) != ([]:Bs))=false):=rfl
 by_cases k1:k=1
 ·subst k1
  by_cases h1:s=[]
  ·subst h1
   have e:wfB (f.take i) (1,[],id)=false:=rfl
   rw [e]
   simp only [F101,go_sem,op,mv,↓reduceIte,Nat.reduceAdd,Nat.reduceEqDiff,Nat.reduceLT,Int.reduceNeg,Int.cast_ofNat_Int,Int.reduceLT,Int.reduceAdd,Int.reduceSub,Int.reduceLE,Int.reduceEq,Int.reduceToNat,Nat.reduceSub,Nat.reduceMul,Nat.reduceLeDiff,h0,hr,z0]
  by_cases h2:id=0
  ·subst h2
   cases i with
   | zero =>
    have e:wfB (f.take 0) (1,s,0)=true:=by simp [wfB,h1,lastK]
    rw [e]
    have hz:((0:Nat):Int)=0:=rfl
    rw [hz] at *
    have hr:(tks f)[0]?=some [.int .i64 1,.str s,.int .i64 0]:=hr
    simp only [F101,go_sem,op,mv,↓reduceIte,Nat.reduceAdd,Nat.reduceEqDiff,Nat.reduceLT,Int.reduceNeg,Int.cast_ofNat_Int,Int.reduceLT,Int.reduceAdd,Int.reduceSub,Int.reduceLE,Int.reduceEq,Int.reduceToNat,Nat.reduceSub,Nat.reduceMul,Nat.reduceLeDiff,h0,hr,ne_nil_t h1]
   | succ j =>
    have hg:f[j]?=some f[j]:=List.getElem?_eq_getElem (by omega)
    generalize f[j]=Y at hg
    have hr2:=tks_at hg
    have hK:=lastK_take hg
    have n0:¬ ((j+1:Nat):Int)=0:=by omega
    have w1:IntKind.i64.wrap (((j+1:Nat):Int) - 1)=(j:Int):=by rw [w64 (by omega) (by omega)]; omega
    have j0:(0:Int)≤(j:Int):=by omega
    by_cases h3:Y.1=1
    ·have e:wfB (f.take (j+1)) (1,s,0)=false:=by simp [wfB,hK,h3]
     rw [e]
     simp only [F101,go_sem,op,mv,↓reduceIte,Nat.reduceAdd,Nat.reduceEqDiff,Nat.reduceLT,Int.reduceNeg,Int.cast_ofNat_Int,Int.reduceLT,Int.reduceAdd,Int.reduceSub,Int.reduceLE,Int.reduceEq,Int.reduceToNat,Nat.reduceSub,Nat.reduceMul,Nat.reduceLeDiff,h0,hr,ne_nil_t h1,n0,w1,j0,hr2,h3]
    ·have e:wfB (f.take (j+1)) (1,s,0)=true:=by simp [wfB,hK,h3,h1]
     rw [e]
     simp only [F101,go_sem,op,mv,↓reduceIte,Nat.reduceAdd,Nat.reduceEqDiff,Nat.reduceLT,Int.reduceNeg,Int.cast_ofNat_Int,Int.reduceLT,Int.reduceAdd,Int.reduceSub,Int.reduceLE,Int.reduceEq,Int.reduceToNat,Nat.reduceSub,Nat.reduceMul,Nat.reduceLeDiff,h0,hr,ne_nil_t h1,n0,w1,j0,hr2,h3]
  ·have e:wfB (f.take i) (1,s,id)=false:=by simp [wfB,h2]
   rw [e]
   simp only [F101,go_sem,op,mv,↓reduceIte,Nat.reduceAdd,Nat.reduceEqDiff,Nat.reduceLT,Int.reduceNeg,Int.cast_ofNat_Int,Int.reduceLT,Int.reduceAdd,Int.reduceSub,Int.reduceLE,Int.reduceEq,Int.reduceToNat,Nat.reduceSub,Nat.reduceMul,Nat.reduceLeDiff,h0,hr,ne_nil_t h1,h2]
 by_cases k5:k=5
 ·subst k5
  have e:wfB (f.take i) (5,s,id)=(isNm s && decide (id=0)):=rfl
  rw [e]
  have h83:=c83 s
  cases hn:isNm s with
  | false =>
   rw [hn] at h83
   simp only [F101,go_sem,op,mv,↓reduceIte,Nat.reduceAdd,Nat.reduceEqDiff,Nat.reduceLT,Int.reduceNeg,Int.cast_ofNat_Int,Int.reduceLT,Int.reduceAdd,Int.reduceSub,Int.reduceLE,Int.reduceEq,Int.reduceToNat,Nat.reduceSub,Nat.reduceMul,Nat.reduceLeDiff,h0,hr,h83,Bool.false_and]
  | true =>
   rw [hn] at h83
   by_cases h2:id=0
   ·simp only [F101,go_sem,op,mv,↓reduceIte,Nat.reduceAdd,Nat.reduceEqDiff,Nat.reduceLT,Int.reduceNeg,Int.cast_ofNat_Int,Int.reduceLT,Int.reduceAdd,Int.reduceSub,Int.reduceLE,Int.reduceEq,Int.reduceToNat,Nat.reduceSub,Nat.reduceMul,Nat.reduceLeDiff,h0,hr,h83,h2,Bool.true_and,decide_true]
   ·simp only [F101,go_sem,op,mv,↓reduceIte,Nat.reduceAdd,Nat.reduceEqDiff,Nat.reduceLT,Int.reduceNeg,Int.cast_ofNat_Int,Int.reduceLT,Int.reduceAdd,Int.reduceSub,Int.reduceLE,Int.reduceEq,Int.reduceToNat,Nat.reduceSub,Nat.reduceMul,Nat.reduceLeDiff,h0,hr,h83,h2,Bool.true_and,decide_false]
 by_cases k2:k=2∨k=4
 ·have e:wfB (f.take i) (k,s,id)=(isC s && (decide (1≤id) && decide (id≤999))):=by rcases k2 with rfl | rfl <;> rfl
  rw [e]
  have h97:=c97 s
  rcases k2 with rfl | rfl
  all_goals
   cases hn:isC s with
   | false =>
    rw [hn] at h97
    simp only [F101,go_sem,op,mv,↓reduceIte,Nat.reduceAdd,Nat.reduceEqDiff,Nat.reduceLT,Int.reduceNeg,Int.cast_ofNat_Int,Int.reduceLT,Int.reduceAdd,Int.reduceSub,Int.reduceLE,Int.reduceEq,Int.reduceToNat,Nat.reduceSub,Nat.reduceMul,Nat.reduceLeDiff,h0,hr,h97,Bool.false_and]
   | true =>
    rw [hn] at h97
    by_cases h2:1≤id
    ·by_cases h3:id≤999
     ·simp only [F101,go_sem,op,mv,↓reduceIte,Nat.reduceAdd,Nat.reduceEqDiff,Nat.reduceLT,Int.reduceNeg,Int.cast_ofNat_Int,Int.reduceLT,Int.reduceAdd,Int.reduceSub,Int.reduceLE,Int.reduceEq,Int.reduceToNat,Nat.reduceSub,Nat.reduceMul,Nat.reduceLeDiff,h0,hr,h97,h2,h3,Bool.true_and,decide_true]
     ·simp only [F101,go_sem,op,mv,↓reduceIte,Nat.reduceAdd,Nat.reduceEqDiff,Nat.reduceLT,Int.reduceNeg,Int.cast_ofNat_Int,Int.reduceLT,Int.reduceAdd,Int.reduceSub,Int.reduceLE,Int.reduceEq,Int.reduceToNat,Nat.reduceSub,Nat.reduceMul,Nat.reduceLeDiff,h0,hr,h97,h2,h3,Bool.true_and,decide_true,decide_false]
    ·simp only [F101,go_sem,op,mv,↓reduceIte,Nat.reduceAdd,Nat.reduceEqDiff,Nat.reduceLT,Int.reduceNeg,Int.cast_ofNat_Int,Int.reduceLT,Int.reduceAdd,Int.reduceSub,Int.reduceLE,Int.reduceEq,Int.reduceToNat,Nat.reduceSub,Nat.reduceMul,Nat.reduceLeDiff,h0,hr,h97,h2,Bool.true_and,decide_false,Bool.false_and]
 have k2':¬ k=2:=fun q=>k2 (.inl q)
 have k4':¬ k=4:=fun q=>k2 (.inr q)
 by_cases k3:k=3
 ·subst k3
  have e:wfB (f.take i) (3,s,id)=(isNm s && (decide (1≤id) && decide (id≤999))):=rfl
  rw [e]
  have h83:=c83 s
  cases hn:isNm s with
  | false =>
   rw [hn] at h83
   simp only [F101,go_sem,op,mv,↓reduceIte,Nat.reduceAdd,Nat.reduceEqDiff,Nat.reduceLT,Int.reduceNeg,Int.cast_ofNat_Int,Int.reduceLT,Int.reduceAdd,Int.reduceSub,Int.reduceLE,Int.reduceEq,Int.reduceToNat,Nat.reduceSub,Nat.reduceMul,Nat.reduceLeDiff,h0,hr,h83,Bool.false_and]
  | true =>
   rw [hn] at h83
   by_cases h2:1≤id
   ·by_cases h3:id≤999
    ·simp only [F101,go_sem,op,mv,↓reduceIte,Nat.reduceAdd,Nat.reduceEqDiff,Nat.reduceLT,Int.reduceNeg,Int.cast_ofNat_Int,Int.reduceLT,Int.reduceAdd,Int.reduceSub,Int.reduceLE,Int.reduceEq,Int.reduceToNat,Nat.reduceSub,Nat.reduceMul,Nat.reduceLeDiff,h0,hr,h83,h2,h3,Bool.true_and,decide_true]
    ·simp only [F101,go_sem,op,mv,↓reduceIte,Nat.reduceAdd,Nat.reduceEqDiff,Nat.reduceLT,Int.reduceNeg,Int.cast_ofNat_Int,Int.reduceLT,Int.reduceAdd,Int.reduceSub,Int.reduceLE,Int.reduceEq,Int.reduceToNat,Nat.reduceSub,Nat.reduceMul,Nat.reduceLeDiff,h0,hr,h83,h2,h3,Bool.true_and,decide_true,decide_false]
   ·simp only [F101,go_sem,op,mv,↓reduceIte,Nat.reduceAdd,Nat.reduceEqDiff,Nat.reduceLT,Int.reduceNeg,Int.cast_ofNat_Int,Int.reduceLT,Int.reduceAdd,Int.reduceSub,Int.reduceLE,Int.reduceEq,Int.reduceToNat,Nat.reduceSub,Nat.reduceMul,Nat.reduceLeDiff,h0,hr,h83,h2,Bool.true_and,decide_false,Bool.false_and]
 ·have e:wfB (f.take i) (k,s,id)=false:=by simp [wfB,k1,k5,k2',k4',k3]
  rw [e]
  simp only [F101,go_sem,op,mv,↓reduceIte,Nat.reduceAdd,Nat.reduceEqDiff,Nat.reduceLT,Int.reduceNeg,Int.cast_ofNat_Int,Int.reduceLT,Int.reduceAdd,Int.reduceSub,Int.reduceLE,Int.reduceEq,Int.reduceToNat,Nat.reduceSub,Nat.reduceMul,Nat.reduceLeDiff,h0,hr,k1,k5,k2',k4',k3]
theorem chk_len {f:List Tk} {x:Tk} (h:chk f x=0) (hx:x.1=2):x.2.1.length≤1000000:=by
 obtain ⟨k,s,i⟩:=x
 simp only [] at hx
 subst hx
 have hc:isC s=true:=by
  cases q:isC s with
  | true=>rfl
  | false=>simp [chk,q] at h
 unfold isC at hc
 simp only [Bool.and_eq_true,decide_eq_true_eq] at hc
 have:=hc.1.1.1.1
 simp only []; omega
theorem VL_len {f:List Tk} (h:VL f):∀ t∈f,t.1=2→t.2.1.length≤1000000:=by
 suffices ∀ (n:Nat) (f:List Tk),f.length=n→VL f→∀ t∈f,t.1=2→t.2.1.length≤1000000 from this _ f rfl h
 intro n
 induction n with
 | zero=>intro f hf _ t ht; rw [List.eq_nil_of_length_eq_zero hf] at ht; cases ht
 | succ n ih =>
  intro f hf hv t ht h2
  rcases snoc_cases f with rfl | ⟨g,y,rfl⟩
  ·cases ht
  ·obtain ⟨a,b⟩:=(chks_snoc g y).1 hv
   rcases List.mem_append.1 ht with q | q
   ·exact ih g (by simp at hf; exact hf) a t q h2
   ·simp only [List.mem_singleton] at q; subst q; exact chk_len b h2
theorem take_step {f:List Tk} {i:Nat} {t:Tk} (h:f[i]?=some t):f.take (i+1)=f.take i++[t]:=by
 have hi:i < f.length:=by
  by_cases q:i < f.length
  ·exact q
  ·rw [List.getElem?_eq_none (by omega)] at h; cases h
 rw [List.getElem?_eq_getElem hi] at h
 simp only [Option.some.injEq] at h
 rw [List.take_succ_eq_append_getElem hi,h]
/-- items from the index i on, behind those before that are all right -/
theorem chks_step {f:List Tk} {i:Nat} {t:Tk} (h:f[i]?=some t):chks (f.take i) (f.drop i)=if chk (f.take i) t≠0 then chk (f.take i) t else chks (f.take (i+1)) (f.drop (i+1)):=by
 have hi:i < f.length:=by
  by_cases q:i < f.length
  ·exact q
  ·rw [List.getElem?_eq_none (by omega)] at h; cases h
 have hd:f.drop i=f[i] :: f.drop (i+1):=List.drop_eq_getElem_cons hi
 rw [take_step h]
 rw [List.getElem?_eq_getElem hi] at h
 simp only [Option.some.injEq] at h
 rw [hd,h]
 rfl
theorem VL_step {f:List Tk} {i:Nat} {t:Tk} (h:f[i]?=some t) (hv:VL (f.take i)) (hc:chk (f.take i) t=0):VL (f.take (i+1)):=by
 rw [take_step h]; exact (chks_snoc _ _).2 ⟨hv,hc⟩
theorem tks_take (f:List Tk) (i:Nat):(tks f).take i=tks (f.take i):=by simp [tks,List.map_take]
theorem slc_tks (f:List Tk) (i:Nat) (hi:i≤f.length):sliceA false 3 (.sl .no 3 (tks f)) none (some (.int .i64 (i:Int)))=some (.sl .no 3 (tks (f.take i))):=by
 unfold sliceA boundA natOf
 have h0:(0:Int)≤(i:Int):=by omega
 have h1:(0:Nat)≤i∧i≤(tks f).length∧((3:Nat)=3∨tks f=[]):=⟨by omega,by rw [tks_len]; exact hi,.inl rfl⟩
 simp only [h0,if_true,Int.toNat_natCast]
 rw [if_pos ⟨h1.1,h1.2.1,.inl trivial⟩,List.drop_zero,tks_take]
theorem l46 (f:List Tk) (hl:f.length≤1000000):∀ (k i:Nat),i+k=f.length→VL (f.take i) →
  (chks (f.take i) (f.drop i)=0→∃ l' m',execX G0 L59_0 (ST [(0,.sl .no 3 (tks f)),(12,.bool false),(13,.sl .no 3 (tks f)),(14,.int .i64 f.length),(15,.int .i64 i)] [] [])=some (.ex 0,ST l' m' [])) ∧
  (chks (f.take i) (f.drop i)≠0→∃ l' m',execX G0 L59_0 (ST [(0,.sl .no 3 (tks f)),(12,.bool false),(13,.sl .no 3 (tks f)),(14,.int .i64 f.length),(15,.int .i64 i)] [] [])=some (.ret,ST l' m' [])∧look .any l' 2=.int .i64 (chks (f.take i) (f.drop i)))
 | 0,i,h,hv=>by
  have:i=f.length:=by omega
  subst this
  refine ⟨fun _=>?_,fun h=>(by simp [chks] at h)⟩
  refine Exists.intro ?_ (Exists.intro ?_ ?_)
  rotate_left 2
  rw [Y_loop (L:=L59_0) rfl]
  simp only [go_sem,op,mv,↓reduceIte,Nat.reduceAdd,Nat.reduceEqDiff,Nat.reduceLT,Int.lt_irrefl]
  rfl
 | k+1,i,h,hv=>by
  have hi:i < f.length:=by omega
  have h4:(i:Int) < (f.length:Int):=by omega
  have h0:(0:Int)≤(i:Int):=by omega
  have hw:IntKind.i64.wrap ((i:Int)+1)=((i+1:Nat):Int):=by rw [w64 (by omega) (by omega)]; rfl
  have hg:f[i]?=some f[i]:=List.getElem?_eq_getElem hi
  generalize f[i]=T at hg
  have hr:=tks_at hg
  obtain ⟨kk,s,id⟩:=T
  simp only [] at hr
  have c68:=c68 f hl i kk s id hg
  have c69:=c69 kk s id
  have c70:=c70 (f.take i) (by simp; omega) (VL_len hv) kk s id
  have hsl:=slc_tks f i (by omega)
  have ih:=fun hv=>l46 f hl k (i+1) (by omega) hv
  rw [chks_step hg]
  rw [chk_wfB] at *
  cases hwf:wfB (f.take i) (kk,s,id) with
  | false =>
   rw [hwf] at c68
   simp only [Bool.false_eq_true,if_false]
   refine ⟨fun q=>(by simp at q),fun _=>?_⟩
   refine Exists.intro ?_ (Exists.intro ?_ (And.intro ?_ ?_))
   rotate_left 2
   ·rw [Y_loop (L:=L59_0) rfl]
    simp only [go_sem,op,mv,↓reduceIte,Nat.reduceAdd,Nat.reduceEqDiff,Nat.reduceLT,h4,h0,hr,hw,c68]
    rfl
   ·rfl
  | true =>
   rw [hwf] at c68
   cases hT:isTag (kk,s,id) with
   | false =>
    rw [hT] at c69
    have h00:chk (f.take i) (kk,s,id)=0:=by rw [chk_wfB,hwf,hT]; rfl
    simp only [if_true,Bool.false_eq_true,if_false,ne_eq,not_true_eq_false]
    have step:execX G0 L59_0 (ST [(0,.sl .no 3 (tks f)),(12,.bool false),(13,.sl .no 3 (tks f)),(14,.int .i64 f.length),(15,.int .i64 i)] [] [])=execX G0 L59_0 (ST [(0,.sl .no 3 (tks f)),(12,.bool false),(13,.sl .no 3 (tks f)),(14,.int .i64 f.length),(15,.int .i64 ((i+1:Nat):Int))] [] []):=by
     conv=>lhs; rw [Y_loop (L:=L59_0) rfl]
     simp only [go_sem,op,mv,↓reduceIte,Nat.reduceAdd,Nat.reduceEqDiff,Nat.reduceLT,h4,h0,hr,hw,c68,c69]
    rw [step]
    exact ih (VL_step hg hv h00)
   | true =>
    rw [hT] at c69
    cases hF:fitsB (f.take i) (kk,s,id) with
    | true =>
     rw [hF] at c70
     have h00:chk (f.take i) (kk,s,id)=0:=by rw [chk_wfB,hwf,hT,hF]; rfl
     simp only [if_true,Bool.false_eq_true,if_false,ne_eq,not_true_eq_false]
     have step:execX G0 L59_0 (ST [(0,.sl .no 3 (tks f)),(12,.bool false),(13,.sl .no 3 (tks f)),(14,.int .i64 f.length),(15,.int .i64 i)] [] [])=execX G0 L59_0 (ST [(0,.sl .no 3 (tks f)),(12,.bool false),(13,.sl .no 3 (tks f)),(14,.int .i64 f.length),(15,.int .i64 ((i+1:Nat):Int))] [] []):=by
      conv=>lhs; rw [Y_loop (L:=L59_0) rfl]
      simp only [go_sem,op,mv,↓reduceIte,Nat.reduceAdd,Nat.reduceEqDiff,Nat.reduceLT,h4,h0,hr,hw,c68,c69,hsl,c70]
     rw [step]
     exact ih (VL_step hg hv h00)
    | false =>
     rw [hF] at c70
     simp only [if_true,Bool.false_eq_true,if_false,ne_eq]
     refine ⟨fun q=>(by simp at q),fun _=>?_⟩
     refine Exists.intro ?_ (Exists.intro ?_ (And.intro ?_ ?_))
     rotate_left 2
     ·rw [Y_loop (L:=L59_0) rfl]
      simp only [go_sem,op,mv,↓reduceIte,Nat.reduceAdd,Nat.reduceEqDiff,Nat.reduceLT,h4,h0,hr,hw,c68,c69,hsl,c70]
      rfl
     ·rfl
theorem c46 (f:List Tk) (hl:f.length≤1000000) (hb:∀ t∈f,t.2.1.length≤cap47):G0 59 [.sl .no 3 (tks f)] []=some (.int .i64 (vld f),[]):=by
 refine contract F59 rfl rfl rfl ?_
 unfold vld
 by_cases h1:512 < f.length
 ·have h1':(512:Int) < (f.length:Int):=by omega
  rw [if_pos (.inl h1)]
  simp only [F59,go_sem,op,mv,↓reduceIte,Nat.reduceAdd,Nat.reduceEqDiff,Nat.reduceLT,tks_len,h1']
 have h1':¬ (512:Int) < (f.length:Int):=by omega
 have c67:=c67 f (by omega) hb
 by_cases h2:1024 < len f
 ·have h2':(1024:Int) < (len f:Int):=by omega
  rw [if_pos (.inr h2)]
  simp only [F59,go_sem,op,mv,↓reduceIte,Nat.reduceAdd,Nat.reduceEqDiff,Nat.reduceLT,tks_len,h1',c67,h2']
 have h2':¬ (1024:Int) < (len f:Int):=by omega
 rw [if_neg (by omega)]
 obtain ⟨x1,x2⟩:=l46 f hl f.length 0 (by omega) rfl
 have ec:((0:Nat):Int)=0:=rfl
 rw [List.drop_zero,List.take_zero,ec] at x1 x2
 by_cases h:chks [] f=0
 ·obtain ⟨l',m',y⟩:=x1 h
  rw [h]
  simp only [F59,go_sem,op,mv,↓reduceIte,Nat.reduceAdd,Nat.reduceEqDiff,Nat.reduceLT,tks_len,h1',c67,h2',y,look_kill,look_setl,List.not_mem_nil,if_true,if_false]
 ·obtain ⟨l',m',y1,y2⟩:=x2 h
  simp only [F59,go_sem,op,mv,↓reduceIte,Nat.reduceAdd,Nat.reduceEqDiff,Nat.reduceLT,tks_len,h1',c67,h2',y1,y2]
end Go.Av
set_option linter.unusedSimpArgs false
set_option linter.unusedVariables false
namespace Go.Av
open Go.Nt
set_option linter.unusedSimpArgs false
set_option linter.unusedVariables false
set_option maxHeartbeats 8000000
set_option maxRecDepth 100000
def bcl (b:Bs):List AV:=b.map fun c=>.int .u8 (c.toNat:Int)
theorem bcl_len (b:Bs):(bcl b).length=b.length:=by simp [bcl]
theorem bcl_app (a b:Bs):bcl (a++b)=bcl a++bcl b:=by simp [bcl]
theorem bcl_nown:∀ b:Bs,(bcl b).all nownB=true
 | []=>rfl
 | c :: b=>by
  show (nownB _ && (bcl b).all nownB)=true
  rw [bcl_nown b]; rfl
theorem bcl_blk:∀ b:Bs,blkB (bcl b)=true
 | []=>rfl
 | c :: b=>rfl
theorem rows_bcl (b:Bs):(bytesRows b).flatten=bcl b:=by
 induction b with
 | nil=>rfl
 | cons c b ih =>
  show [AV.int .u8 (c.toNat:Int)]++(bytesRows b).flatten=AV.int .u8 (c.toNat:Int) :: bcl b
  rw [ih]; rfl
theorem bytesRows_len (b:Bs):(bytesRows b).length=b.length:=by simp [bytesRows]
/-- what the written bytes are while a text is written -/
def BSt (v:AV) (sh:List (List AV)) (b:Bs):Prop:=
 (b=[]∧v=.sl .full 1 []∧sh=[])∨(∃ D:List (List AV),v=.ss D.length 0 b.length 1∧sh=D++[bcl b])
theorem BSt.scrub {v:AV} {sh:List (List AV)} {b:Bs} (h:BSt v sh b) (k:List Nat):scrubV k v=v:=by
 rcases h with ⟨_,rfl,_⟩ | ⟨D,rfl,_⟩ <;> rfl
theorem BSt.dem {v:AV} {sh:List (List AV)} {b:Bs} (h:BSt v sh b):demV v=v:=by
 rcases h with ⟨_,rfl,_⟩ | ⟨D,rfl,_⟩ <;> rfl
theorem BSt.arg {v:AV} {sh:List (List AV)} {b:Bs} (h:BSt v sh b):argB true v=true:=by
 rcases h with ⟨_,rfl,_⟩ | ⟨D,rfl,_⟩ <;> rfl
theorem appW {v:AV} {sh:List (List AV)} {b:Bs} (h:BSt v sh b) (r:Bs) (hr:r≠[]) (hl:b.length+r.length≤1000000):∃ v' sh',BSt v' sh' (b++r)∧appSA 1 1 sh (some (bytesRows r)) v=some (v',sh'):=by
 have ha:appOK 1 (b.length+r.length)=true:=appOK_le (by decide) (by omega)
 rcases h with ⟨rfl,rfl,rfl⟩ | ⟨D,rfl,rfl⟩
 ·cases r with
  | nil=>exact absurd rfl hr
  | cons c r =>
   refine ⟨.ss 0 0 (c :: r).length 1,[bcl (c :: r)],.inr ⟨[],by simp,by simp⟩,?_⟩
   have e:bytesRows (c :: r)=[AV.int .u8 (c.toNat:Int)] :: bytesRows r:=rfl
   have e2:=rows_bcl (c :: r)
   rw [e] at e2 ⊢
   simp only [List.length_nil,List.length_cons,Nat.zero_add] at ha
   rw [appSA_nil 1 1 1 (by decide),bytesRows_len,if_pos ha,e2]
   rfl
 ·refine ⟨.ss (D++[dead]).length 0 (b++r).length 1,(D++[dead])++[bcl (b++r)],.inr ⟨D++[dead],rfl,rfl⟩,?_⟩
  rw [appSA_ss D.length b.length 1 1 (by decide),bytesRows_len,if_pos ha,gD]
  simp only [Option.bind_some]
  rw [if_pos ⟨bcl_blk b,by rw [bcl_len]; omega,bcl_nown b⟩,rows_bcl,sD,bcl_app,List.length_append,List.length_append,List.length_append]
  rfl
theorem bytesOf_bcl:∀ b:Bs,bytesOfR (bytesRows b)=some b
 | []=>rfl
 | c :: b=>by
  have e:bytesRows (c :: b)=[AV.int .u8 (c.toNat:Int)] :: bytesRows b:=rfl
  rw [e]
  simp only [bytesOfR,byteOf,bytesOf_bcl b,Int.toNat_natCast]
  simp
theorem rowsC_bcl (b:Bs):rowsC 0 b.length 1 (bcl b)=some (bytesRows b):=by
 have h1:∀ b:Bs,(bcl b).all (fun x=>flatB (demV x))=true:=by
  intro b
  induction b with
  | nil=>rfl
  | cons c b ih =>
   show (flatB _ && (bcl b).all _)=true
   rw [ih]; rfl
 have h2:∀ b:Bs,(bcl b).map demV=bcl b:=by
  intro b
  induction b with
  | nil=>rfl
  | cons c b ih =>
   show demV _ :: (bcl b).map demV=_
   rw [ih]; rfl
 have h3:∀ b:Bs,rowsOf 1 b.length (bcl b)=bytesRows b:=by
  intro b
  induction b with
  | nil=>rfl
  | cons c b ih =>
   show (bcl (c :: b)).take 1 :: rowsOf 1 b.length ((bcl (c :: b)).drop 1)=_
   have e:(bcl (c :: b)).drop 1=bcl b:=rfl
   rw [e,ih]; rfl
 unfold rowsC
 have h4:((bcl b).drop 0).take (b.length * 1)=bcl b:=by rw [List.drop_zero]; exact List.take_of_length_le (by rw [bcl_len]; omega)
 rw [h4,h2,h3,if_pos ⟨by decide,by rw [bcl_len]; omega,h1 b⟩]
theorem BSt.str {v:AV} {sh:List (List AV)} {b:Bs} (h:BSt v sh b):b2sA sh v=some (.str b):=by
 rcases h with ⟨rfl,rfl,rfl⟩ | ⟨D,rfl,rfl⟩
 ·rfl
 ·rw [b2sA_ss,gD]
  simp only [Option.bind_some,rowsC_bcl,bytesOf_bcl,Option.map_some]
theorem wrt_len (c:UInt8):(wrt c).length≤4:=by
 have:=byte_all (fun c=>decide ((wrt c).length≤4)) (by decide) c
 simpa using this
theorem wrts_len (s:Bs):(s.flatMap wrt).length≤4 * s.length:=by
 induction s with
 | nil=>simp
 | cons c s ih=>rw [List.flatMap_cons,List.length_append,List.length_cons]; have:=wrt_len c; omega
theorem mks2c (x y:Int):mksA 1 [.int .u8 0] 2 [0,1] [.int .u8 x,.int .u8 y]=some (.sl .full 1 [[.int .u8 x],[.int .u8 y]]):=rfl
theorem mks4c (x y z t:Int):mksA 1 [.int .u8 0] 4 [0,1,2,3] [.int .u8 x,.int .u8 y,.int .u8 z,.int .u8 t]=some (.sl .full 1 [[.int .u8 x],[.int .u8 y],[.int .u8 z],[.int .u8 t]]):=rfl
theorem l51 (s:Bs) (hs:s.length≤100000):∀ (r p b:Bs) (v:AV) (sh:List (List AV)),s=p++r→BSt v sh b→b.length+4 * r.length≤1000000 →
  ∃ v' sh',BSt v' sh' (b++r.flatMap wrt)∧execX G0 L127_0 (ST [(0,v),(1,.str s),(5,.int .i64 p.length)] [] sh)=some (.ex 0,ST [(0,v'),(1,.str s),(5,.int .i64 s.length),(10,.bool false)] [] sh')
 | [],p,b,v,sh,h,hst,hl=>by
  have h:s=p:=by simp [h]
  subst h
  refine ⟨v,sh,by simpa using hst,?_⟩
  have hs1:=hst.scrub
  rw [Y_loop (L:=L127_0) rfl]
  simp only [go_sem,op,mv,↓reduceIte,Nat.reduceAdd,Nat.reduceEqDiff,Nat.reduceLT,Int.reduceNeg,Int.cast_ofNat_Int,Int.reduceLT,Int.reduceAdd,Int.reduceSub,Int.reduceLE,Int.reduceEq,Int.reduceToNat,Nat.reduceSub,Nat.reduceMul,Nat.reduceLeDiff,hs1,Int.lt_irrefl]
 | c :: r,p,b,v,sh,h,hst,hl=>by
  have hll:s.length=p.length+1+r.length:=by simp [h]; omega
  have h4:(p.length:Int) < (s.length:Int):=by omega
  have h0:(0:Int)≤(p.length:Int):=by omega
  have h5:s[p.length]?=some c:=by rw [h]; simp
  have hw:IntKind.i64.wrap ((p.length:Int)+1)=((p.length+1:Nat):Int):=by rw [w64 (by omega) (by omega)]; rfl
  simp only [List.length_cons] at hl
  have hwl:=wrt_len c
  obtain ⟨v1,sh1,q1,q2⟩:=appW hst (wrt c) (wrt_ne c) (by omega)
  obtain ⟨v',sh',q3,q4⟩:=l51 s hs r (p++[c]) (b++wrt c) v1 sh1 (by simp [h]) q1 (by rw [List.length_append]; omega)
  refine ⟨v',sh',by rw [List.flatMap_cons,← List.append_assoc]; exact q3,?_⟩
  have e1:((p++[c]).length:Int)=((p.length+1:Nat):Int):=by simp
  rw [e1] at q4
  have hs0:=hst.scrub
  have hs1:=q1.scrub
  have hd0:=hst.dem
  have hd1:=q1.dem
  have c77:=c77' c
  cases hp:plain c with
  | true =>
   rw [hp] at c77
   rw [plain_wrt c hp] at q2
   have q2:appSA 1 1 sh (some [[AV.int .u8 (c.toNat:Int)]]) v=some (v1,sh1):=q2
   rw [Y_loop (L:=L127_0) rfl]
   simp only [go_sem,op,mv,↓reduceIte,Nat.reduceAdd,Nat.reduceEqDiff,Nat.reduceLT,Int.reduceNeg,Int.cast_ofNat_Int,Int.reduceLT,Int.reduceAdd,Int.reduceSub,Int.reduceLE,Int.reduceEq,Int.reduceToNat,Nat.reduceSub,Nat.reduceMul,Nat.reduceLeDiff,h4,h0,h5,hw,c77,hs0,hs1,hd0,hd1,mks1b,q2]
   exact q4
  | false =>
   rw [hp] at c77
   have e10:(c.toNat:Int)=10↔c=10:=by rw [← UInt8.toNat_inj]; show _↔c.toNat=10; omega
   have e9:(c.toNat:Int)=9↔c=9:=by rw [← UInt8.toNat_inj]; show _↔c.toNat=9; omega
   have e92:(c.toNat:Int)=92↔c=92:=by rw [← UInt8.toNat_inj]; show _↔c.toNat=92; omega
   have e60:(c.toNat:Int)=60↔c=60:=by rw [← UInt8.toNat_inj]; show _↔c.toNat=60; omega
   have e123:(c.toNat:Int)=123↔c=123:=by rw [← UInt8.toNat_inj]; show _↔c.toNat=123; omega
   by_cases k1:c=10
   ·subst k1
    have n1:(((10:UInt8).toNat:Nat):Int)=10:=rfl
    have q2:appSA 1 1 sh (some [[AV.int .u8 92],[AV.int .u8 110]]) v=some (v1,sh1):=q2
    rw [Y_loop (L:=L127_0) rfl]
    rw [n1] at c77
    simp only [go_sem,op,mv,↓reduceIte,Nat.reduceAdd,Nat.reduceEqDiff,Nat.reduceLT,Int.reduceNeg,Int.cast_ofNat_Int,Int.reduceLT,Int.reduceAdd,Int.reduceSub,Int.reduceLE,Int.reduceEq,Int.reduceToNat,Nat.reduceSub,Nat.reduceMul,Nat.reduceLeDiff,h4,h0,h5,hw,n1,c77,hs0,hs1,hd0,hd1,mks2c,q2]
    exact q4
   have k1':¬ (c.toNat:Int)=10:=fun q=>k1 (e10.1 q)
   by_cases k2:c=9
   ·subst k2
    have n1:(((9:UInt8).toNat:Nat):Int)=9:=rfl
    have q2:appSA 1 1 sh (some [[AV.int .u8 92],[AV.int .u8 116]]) v=some (v1,sh1):=q2
    rw [Y_loop (L:=L127_0) rfl]
    rw [n1] at c77
    simp only [go_sem,op,mv,↓reduceIte,Nat.reduceAdd,Nat.reduceEqDiff,Nat.reduceLT,Int.reduceNeg,Int.cast_ofNat_Int,Int.reduceLT,Int.reduceAdd,Int.reduceSub,Int.reduceLE,Int.reduceEq,Int.reduceToNat,Nat.reduceSub,Nat.reduceMul,Nat.reduceLeDiff,h4,h0,h5,hw,n1,c77,hs0,hs1,hd0,hd1,mks2c,q2]
    exact q4
   have k2':¬ (c.toNat:Int)=9:=fun q=>k2 (e9.1 q)
   by_cases k3:c=92∨c=60∨c=123
   ·have ew:wrt c=[92,c]:=by unfold wrt; rw [if_pos k3]
    rw [ew] at q2
    have q2:appSA 1 1 sh (some [[AV.int .u8 92],[AV.int .u8 (c.toNat:Int)]]) v=some (v1,sh1):=q2
    rcases k3 with k3 | k3 | k3
    ·have k3':=e92.2 k3
     rw [k3'] at q2 c77
     rw [Y_loop (L:=L127_0) rfl]
     simp only [go_sem,op,mv,↓reduceIte,Nat.reduceAdd,Nat.reduceEqDiff,Nat.reduceLT,Int.reduceNeg,Int.cast_ofNat_Int,Int.reduceLT,Int.reduceAdd,Int.reduceSub,Int.reduceLE,Int.reduceEq,Int.reduceToNat,Nat.reduceSub,Nat.reduceMul,Nat.reduceLeDiff,h4,h0,h5,hw,c77,k3',hs0,hs1,hd0,hd1,mks2c,q2]
     exact q4
    ·have k3':=e60.2 k3
     rw [k3'] at q2 c77
     rw [Y_loop (L:=L127_0) rfl]
     simp only [go_sem,op,mv,↓reduceIte,Nat.reduceAdd,Nat.reduceEqDiff,Nat.reduceLT,Int.reduceNeg,Int.cast_ofNat_Int,Int.reduceLT,Int.reduceAdd,Int.reduceSub,Int.reduceLE,Int.reduceEq,Int.reduceToNat,Nat.reduceSub,Nat.reduceMul,Nat.reduceLeDiff,h4,h0,h5,hw,c77,k3',hs0,hs1,hd0,hd1,mks2c,q2]
     exact q4
    ·have k3':=e123.2 k3
     rw [k3'] at q2 c77
     rw [Y_loop (L:=L127_0) rfl]
     simp only [go_sem,op,mv,↓reduceIte,Nat.reduceAdd,Nat.reduceEqDiff,Nat.reduceLT,Int.reduceNeg,Int.cast_ofNat_Int,Int.reduceLT,Int.reduceAdd,Int.reduceSub,Int.reduceLE,Int.reduceEq,Int.reduceToNat,Nat.reduceSub,Nat.reduceMul,Nat.reduceLeDiff,h4,h0,h5,hw,c77,k3',hs0,hs1,hd0,hd1,mks2c,q2]
     exact q4
   ·have k31:¬ (c.toNat:Int)=92:=fun q=>k3 (.inl (e92.1 q))
    have k32:¬ (c.toNat:Int)=60:=fun q=>k3 (.inr (.inl (e60.1 q)))
    have k33:¬ (c.toNat:Int)=123:=fun q=>k3 (.inr (.inr (e123.1 q)))
    have h4x:c=13∨ctl c=true:=by
     have:=byte_all (fun c=>plain c || decide (c=92) || decide (c=60) || decide (c=123) || decide (c=10) || decide (c=9) || decide (c=13) || ctl c) (by decide) c
     simp only [hp,Bool.false_or,Bool.or_eq_true,decide_eq_true_eq] at this
     rcases this with (((((h | h) | h) | h) | h) | h) | h
     ·exact absurd (.inl h) k3
     ·exact absurd (.inr (.inl h)) k3
     ·exact absurd (.inr (.inr h)) k3
     ·exact absurd h k1
     ·exact absurd h k2
     ·exact .inl h
     ·exact .inr h
    have ew:=esc_x c h4x
    rw [ew] at q2
    have q2:appSA 1 1 sh (some [[AV.int .u8 92],[AV.int .u8 120],[AV.int .u8 ((hexd (c.toNat / 16)).toNat:Int)],[AV.int .u8 ((hexd (c.toNat % 16)).toNat:Int)]]) v=some (v1,sh1):=q2
    have hlt:=c.toNat_lt
    have a1:((c.toNat:Int)).fdiv (2 ^ (min 4 8))=((c.toNat / 16:Nat):Int):=by
     have:(2:Int) ^ (min 4 8)=16:=rfl
     rw [this,Int.fdiv_eq_ediv_of_nonneg _ (by omega)]; omega
    have a2:IntKind.u8.wrap ((((c.toNat:Int) % 2 ^ 8).toNat &&& ((15:Int) % 2 ^ 8).toNat:Nat):Int)=((c.toNat % 16:Nat):Int):=by
     have e:(2:Int) ^ 8=256:=rfl
     have e2:((15:Int) % 256).toNat=2 ^ 4 - 1:=rfl
     have e3:((c.toNat:Int) % 256).toNat=c.toNat:=by omega
     rw [e,e2,e3,Nat.and_two_pow_sub_one_eq_mod,wu8 (by omega) (by omega)]
    have b0:(0:Int)≤((c.toNat / 16:Nat):Int):=by omega
    have b1:(0:Int)≤((c.toNat % 16:Nat):Int):=by omega
    have g1:=hexS_at (n:=c.toNat / 16) (by omega)
    have g2:=hexS_at (n:=c.toNat % 16) (by omega)
    simp only [hexS] at g1 g2
    rw [Y_loop (L:=L127_0) rfl]
    simp only [go_sem,op,mv,↓reduceIte,Nat.reduceAdd,Nat.reduceEqDiff,Nat.reduceLT,Int.reduceNeg,Int.cast_ofNat_Int,Int.reduceLT,Int.reduceAdd,Int.reduceSub,Int.reduceLE,Int.reduceEq,Int.reduceToNat,Nat.reduceSub,Nat.reduceMul,Nat.reduceLeDiff,h4,h0,h5,hw,c77,k1',k2',k31,k32,k33,hs0,hs1,hd0,hd1,a1,a2,b0,b1,g1,g2,mks4c,q2]
    exact q4
theorem c51 {v:AV} {sh:List (List AV)} {b:Bs} (h:BSt v sh b) (s:Bs) (hs:s.length≤100000) (hl:b.length+4 * s.length≤1000000):∃ v' sh',BSt v' sh' (b++s.flatMap wrt)∧G0 127 [v,.str s] sh=some (v',sh'):=by
 obtain ⟨v',sh',q1,q2⟩:=l51 s hs s [] b v sh rfl h hl
 have ec:((([]:Bs).length:Nat):Int)=0:=rfl
 rw [ec] at q2
 refine ⟨v',sh',q1,?_⟩
 refine contract F127 rfl rfl rfl ?_
 have hs0:=h.scrub
 have hs1:=q1.scrub
 have hd1:=q1.dem
 have hd0:=h.dem
 simp only [F127,go_sem,op,mv,↓reduceIte,Nat.reduceAdd,Nat.reduceEqDiff,Nat.reduceLT,hs0,hd0,q2,hs1,hd1]
 rcases q1 with ⟨_,rfl,rfl⟩ | ⟨D,rfl,rfl⟩
 ·simp only [go_sem,op,mv,↓reduceIte,Nat.reduceAdd,Nat.reduceEqDiff,Nat.reduceLT]
 ·simp only [go_sem,op,mv,↓reduceIte,Nat.reduceAdd,Nat.reduceEqDiff,Nat.reduceLT]
end Go.Av
namespace Go.Av
open Go.Nt
set_option linter.unusedSimpArgs false
set_option linter.unusedVariables false
set_option maxHeartbeats 8000000
set_option maxRecDepth 100000
theorem addS (a b:Bs) (h:a.length+b.length≤140737488355328):binA .add (.str a) (.str b)=some (.str (a++b)):=by rw [bins_add,if_pos h]
theorem dec_len (n:Nat):(Nt.dec n).length≤3:=by unfold Nt.dec; split; simp; split <;> simp
theorem isC_len {s:Bs} (h:isC s=true):s.length≤64:=by
 unfold isC at h
 simp only [Bool.and_eq_true,decide_eq_true_eq] at h
 exact h.1.1.1.1
/-- what a right item is -/
theorem chk_kind {f:List Tk} {k:Int} {s:Bs} {i:Int} (h:chk f (k,s,i)=0):(k=1∧i=0)∨(s.length≤64∧0≤i∧i≤999∧(k=2∨k=3∨k=4∨k=5)):=by
 by_cases hk:k=1
 ·subst hk; exact .inl ⟨rfl,((chk_text (x:=(1,s,i)) rfl).1 h).2.1⟩
 ·rcases chk_wf h hk with ⟨h1,_⟩ | ⟨h1,h2,h3⟩ | ⟨h1,h2,h3,h4⟩ | ⟨h1,h2,h3,h4⟩
  ·exact absurd h1 hk
  ·simp only [] at h1 h2 h3
   have:=(isNm_mem h2).2.1
   exact .inr ⟨by omega,by omega,by omega,.inr (.inr (.inr h1))⟩
  ·simp only [] at h1 h2 h3 h4
   have:=isC_len h2
   exact .inr ⟨by omega,by omega,by omega,by rcases h1 with h1 | h1 <;> simp [h1]⟩
  ·simp only [] at h1 h2 h3 h4
   have:=(isNm_mem h2).2.1
   exact .inr ⟨by omega,by omega,by omega,.inr (.inl h1)⟩
theorem elt_len {f:List Tk} {x:Tk} (h:chk f x=0):(elt x).length≤4 * wid x+80:=by
 obtain ⟨k,s,i⟩:=x
 have hd:=dec_len i.toNat
 rcases chk_kind h with ⟨rfl,rfl⟩ | ⟨h1,_,_,h2⟩
 ·have:=wrts_len s
  show (s.flatMap wrt).length≤4 * s.length+80
  omega
 ·rcases h2 with rfl | rfl | rfl | rfl
  ·simp [elt]; omega
  ·simp [elt]; omega
  ·simp [elt]; omega
  ·simp [elt]; omega
theorem fmt_len {f:List Tk} (h:VL f):(fmt f).length≤4 * len f+80 * f.length:=by
 suffices ∀ (n:Nat) (f:List Tk),f.length=n→VL f→(fmt f).length≤4 * len f+80 * f.length from this _ f rfl h
 intro n
 induction n with
 | zero=>intro f hf _; rw [List.eq_nil_of_length_eq_zero hf]; simp [fmt]
 | succ n ih =>
  intro f hf hv
  rcases snoc_cases f with rfl | ⟨g,y,rfl⟩
  ·simp [fmt]
  ·obtain ⟨a,b⟩:=(chks_snoc g y).1 hv
   have h1:=ih g (by simp at hf; exact hf) a
   have h2:=elt_len b
   rw [fmt_app,fmt_one,len_app,len_one,List.length_append,List.length_append,List.length_singleton]
   omega
theorem vld_len {f:List Tk} (h:vld f=0):(fmt f).length≤50000:=by
 obtain ⟨h1,h2,h3⟩:=(vld_iff f).1 h
 have:=fmt_len h1
 omega
theorem VL_at {f:List Tk} (h:VL f) {i:Nat} {t:Tk} (hi:f[i]?=some t):chk (f.take i) t=0:=by
 have hs:=split_at hi
 unfold VL at h
 rw [hs,show f.take i++t :: f.drop (i+1)=(f.take i++[t])++f.drop (i+1) by simp,chks_app] at h
 by_cases q:chks [] (f.take i++[t])=0
 ·exact ((chks_snoc _ _).1 q).2
 ·rw [if_pos q] at h; exact absurd h q
theorem fmt_drop {f:List Tk} {i:Nat} {t:Tk} (hi:f[i]?=some t):fmt (f.drop i)=elt t++fmt (f.drop (i+1)):=by
 have h:i < f.length:=by
  by_cases q:i < f.length
  ·exact q
  ·rw [List.getElem?_eq_none (by omega)] at hi; cases hi
 rw [List.drop_eq_getElem_cons h]
 rw [List.getElem?_eq_getElem h] at hi
 simp only [Option.some.injEq] at hi
 rw [hi]
 simp [fmt]
theorem l32 (f:List Tk) (hl:f.length≤1000) (hv:VL f):∀ (k i:Nat) (b:Bs) (v:AV) (sh:List (List AV)),i+k=f.length→BSt v sh b→b.length+(fmt (f.drop i)).length≤500000→len f≤100000 →
  ∃ v' sh',BSt v' sh' (b++fmt (f.drop i))∧execX G0 L79_0 (ST [(4,.int .i64 0),(5,v),(12,.bool false),(14,.sl .no 3 (tks f)),(15,.int .i64 f.length),(16,.int .i64 i)] [] sh)=some (.ex 0,ST [(4,.int .i64 0),(5,v'),(12,.bool false),(14,.sl .no 3 (tks f)),(15,.int .i64 f.length),(16,.int .i64 f.length),(17,.bool false)] [] sh')
 | 0,i,b,v,sh,h,hst,hb,hL=>by
  have:i=f.length:=by omega
  subst this
  refine ⟨v,sh,by simpa [fmt] using hst,?_⟩
  have hs1:=hst.scrub
  rw [Y_loop (L:=L79_0) rfl]
  simp only [go_sem,op,mv,↓reduceIte,Nat.reduceAdd,Nat.reduceEqDiff,Nat.reduceLT,hs1,Int.lt_irrefl]
 | k+1,i,b,v,sh,h,hst,hb,hL=>by
  have hi:i < f.length:=by omega
  have h4:(i:Int) < (f.length:Int):=by omega
  have h0:(0:Int)≤(i:Int):=by omega
  have hw:IntKind.i64.wrap ((i:Int)+1)=((i+1:Nat):Int):=by rw [w64 (by omega) (by omega)]; rfl
  have hg:f[i]?=some f[i]:=List.getElem?_eq_getElem hi
  generalize f[i]=T at hg
  have hr:=tks_at hg
  have hc:=VL_at hv hg
  have he:=elt_len hc
  rw [fmt_drop hg] at hb ⊢
  rw [List.length_append] at hb
  have hwl:wid T≤len f:=by
   have:=split_at hg
   rw [this,len_app,len_cons]; omega
  obtain ⟨kk,s,id⟩:=T
  simp only [] at hr
  have hs0:=hst.scrub
  have hd0:=hst.dem
  have ha0:=hst.arg
  have fin:∀ v1 sh1,BSt v1 sh1 (b++elt (kk,s,id))→∃ v' sh',BSt v' sh' (b++(elt (kk,s,id)++fmt (f.drop (i+1))))∧execX G0 L79_0 (ST [(4,.int .i64 0),(5,v1),(12,.bool false),(14,.sl .no 3 (tks f)),(15,.int .i64 f.length),(16,.int .i64 ((i+1:Nat):Int))] [] sh1)=some (.ex 0,ST [(4,.int .i64 0),(5,v'),(12,.bool false),(14,.sl .no 3 (tks f)),(15,.int .i64 f.length),(16,.int .i64 f.length),(17,.bool false)] [] sh'):=by
   intro v1 sh1 q
   obtain ⟨v',sh',p1,p2⟩:=l32 f hl hv k (i+1) _ v1 sh1 (by omega) q (by rw [List.length_append]; omega) hL
   exact ⟨v',sh',by rw [← List.append_assoc]; exact p1,p2⟩
  rcases chk_kind hc with ⟨rfl,rfl⟩ | ⟨h64,i0,i1,hk⟩
  ·have hw2:wid (1,s,0)=s.length:=rfl
   have ee:elt (1,s,0)=s.flatMap wrt:=rfl
   obtain ⟨v1,sh1,q1,q2⟩:=c51 hst s (by omega) (by omega)
   obtain ⟨v',sh',p1,p2⟩:=fin v1 sh1 q1
   refine ⟨v',sh',p1,?_⟩
   have hs1:=q1.scrub
   have hd1:=q1.dem
   have h50:=c50 0 (by omega)
   have ec:((0:Nat):Int)=0:=rfl
   rw [ec] at h50
   rw [Y_loop (L:=L79_0) rfl]
   simp only [go_sem,op,mv,↓reduceIte,Nat.reduceAdd,Nat.reduceEqDiff,Nat.reduceLT,h4,h0,hr,hw,h50,q2,hs0,hd0,ha0,hs1,hd1]
   exact p2
  ·obtain ⟨n,rfl⟩:=Int.eq_ofNat_of_zero_le i0
   have h50:=c50 n (by omega)
   have hd:=dec_len n
   generalize hdn:Nt.dec n=d at hd h50
   rcases hk with rfl | rfl | rfl | rfl
   ·have ee:elt (2,s,(n:Int))=[60]++d++[58]++s++[62]:=by simp [elt,hdn]
    obtain ⟨v1,sh1,q1,q2⟩:=appW hst ([60]++d++[58]++s++[62]) (by simp) (by simp; omega)
    obtain ⟨v',sh',p1,p2⟩:=fin v1 sh1 (by rw [ee]; exact q1)
    refine ⟨v',sh',p1,?_⟩
    have hs1:=q1.scrub
    have hd1:=q1.dem
    have a1:=addS [60] d (by simp; omega)
    have a2:=addS ([60]++d) [58] (by simp; omega)
    have a3:=addS ([60]++d++[58]) s (by simp; omega)
    have a4:=addS ([60]++d++[58]++s) [62] (by simp; omega)
    generalize hX1:([60]++d:Bs)=X1 at *
    generalize hX2:(X1++[58]:Bs)=X2 at *
    generalize hX3:(X2++s:Bs)=X3 at *
    generalize hX4:(X3++[62]:Bs)=X4 at *
    rw [Y_loop (L:=L79_0) rfl]
    simp only [a1,a2,a3,a4,go_sem,op,mv,↓reduceIte,Nat.reduceAdd,Nat.reduceEqDiff,Nat.reduceLT,h4,h0,hr,hw,h50,q2,hs0,hd0,ha0,hs1,hd1]
    exact p2
   ·have ee:elt (3,s,(n:Int))=[60,47]++d++[58]++s++[62]:=by simp [elt,hdn]
    obtain ⟨v1,sh1,q1,q2⟩:=appW hst ([60,47]++d++[58]++s++[62]) (by simp) (by simp; omega)
    obtain ⟨v',sh',p1,p2⟩:=fin v1 sh1 (by rw [ee]; exact q1)
    refine ⟨v',sh',p1,?_⟩
    have hs1:=q1.scrub
    have hd1:=q1.dem
    have a1:=addS [60,47] d (by simp; omega)
    have a2:=addS ([60,47]++d) [58] (by simp; omega)
    have a3:=addS ([60,47]++d++[58]) s (by simp; omega)
    have a4:=addS ([60,47]++d++[58]++s) [62] (by simp; omega)
    generalize hX1:([60,47]++d:Bs)=X1 at *
    generalize hX2:(X1++[58]:Bs)=X2 at *
    generalize hX3:(X2++s:Bs)=X3 at *
    generalize hX4:(X3++[62]:Bs)=X4 at *
    rw [Y_loop (L:=L79_0) rfl]
    simp only [a1,a2,a3,a4,go_sem,op,mv,↓reduceIte,Nat.reduceAdd,Nat.reduceEqDiff,Nat.reduceLT,h4,h0,hr,hw,h50,q2,hs0,hd0,ha0,hs1,hd1]
    exact p2
   ·have ee:elt (4,s,(n:Int))=[60]++d++[58]++s++[47,62]:=by simp [elt,hdn]
    obtain ⟨v1,sh1,q1,q2⟩:=appW hst ([60]++d++[58]++s++[47,62]) (by simp) (by simp; omega)
    obtain ⟨v',sh',p1,p2⟩:=fin v1 sh1 (by rw [ee]; exact q1)
    refine ⟨v',sh',p1,?_⟩
    have hs1:=q1.scrub
    have hd1:=q1.dem
    have a1:=addS [60] d (by simp; omega)
    have a2:=addS ([60]++d) [58] (by simp; omega)
    have a3:=addS ([60]++d++[58]) s (by simp; omega)
    have a4:=addS ([60]++d++[58]++s) [47,62] (by simp; omega)
    generalize hX1:([60]++d:Bs)=X1 at *
    generalize hX2:(X1++[58]:Bs)=X2 at *
    generalize hX3:(X2++s:Bs)=X3 at *
    generalize hX4:(X3++[47,62]:Bs)=X4 at *
    rw [Y_loop (L:=L79_0) rfl]
    simp only [a1,a2,a3,a4,go_sem,op,mv,↓reduceIte,Nat.reduceAdd,Nat.reduceEqDiff,Nat.reduceLT,h4,h0,hr,hw,h50,q2,hs0,hd0,ha0,hs1,hd1]
    exact p2
   ·have ee:elt (5,s,(n:Int))=[123]++s++[125]:=by simp [elt]
    obtain ⟨v1,sh1,q1,q2⟩:=appW hst ([123]++s++[125]) (by simp) (by simp; omega)
    obtain ⟨v',sh',p1,p2⟩:=fin v1 sh1 (by rw [ee]; exact q1)
    refine ⟨v',sh',p1,?_⟩
    have hs1:=q1.scrub
    have hd1:=q1.dem
    have a1:=addS [123] s (by simp; omega)
    have a2:=addS ([123]++s) [125] (by simp; omega)
    generalize hX1:([123]++s:Bs)=X1 at *
    generalize hX2:(X1++[125]:Bs)=X2 at *
    rw [Y_loop (L:=L79_0) rfl]
    simp only [a1,a2,go_sem,op,mv,↓reduceIte,Nat.reduceAdd,Nat.reduceEqDiff,Nat.reduceLT,h4,h0,hr,hw,h50,q2,hs0,hd0,ha0,hs1,hd1]
    exact p2
def fmtE (f:List Tk):Bs:=if vld f=0 then fmt f else []
theorem c32 (f:List Tk) (hl:f.length≤1000000) (hb:∀ t∈f,t.2.1.length≤cap47):G0 79 [.sl .no 3 (tks f)] []=some (.tup [.str (fmtE f),.int .i64 (vld f)],[]):=by
 refine contract F79 rfl rfl rfl ?_
 have h46:=c46 f hl hb
 unfold fmtE
 by_cases h:vld f=0
 ·rw [if_pos h,h]
  rw [h] at h46
  obtain ⟨h1,h2,h3⟩:=(vld_iff f).1 h
  have hf:=vld_len h
  obtain ⟨v',sh',q1,q2⟩:=l32 f (by omega) h1 f.length 0 [] (.sl .full 1 []) [] (by omega) (.inl ⟨rfl,rfl,rfl⟩) (by rw [List.drop_zero]; simp only [List.length_nil]; omega) (by omega)
  have ec:((0:Nat):Int)=0:=rfl
  rw [List.drop_zero,List.nil_append] at q1
  rw [ec] at q2
  have hs1:=q1.scrub
  have hd1:=q1.dem
  have hq:=q1.str
  have hsd:sameDead [] sh'=true:=rfl
  simp only [F79,go_sem,op,mv,↓reduceIte,Nat.reduceAdd,Nat.reduceEqDiff,Nat.reduceLT,h46,tks_len,q2,hs1,hd1,hq,hsd]
 ·rw [if_neg h]
  simp only [F79,go_sem,op,mv,↓reduceIte,Nat.reduceAdd,Nat.reduceEqDiff,Nat.reduceLT,h46,h]
end Go.Av
