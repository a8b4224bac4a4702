/- Tokens: bytes, words, numbers, runs of spaces. No conditions. Tokens: the reference's words and numbers. No conditions. Tokens: keys, cutting a text. No conditions. Kinds, weights, keys and prices of tokens, by the program and by the reference. No conditions. Prices of pairs of tokens, totals. No conditions. Prices of pairs by the reference; totals. No conditions. distance.Distance: the row that is filled from the front. No conditions. r11.table: rows in a list of rows, filled from the back. No conditions. r11.table's rows, r11.Distance, percentages. No conditions. -/
import Derived.Test.YtgbjlnijjonidaaGreatDoorG1XD
import Derived.Test.YtgbjlnijjonidaaGreatDoorG1XA
import Derived.Test.YtgbjlnijjonidaaGreatDoorG1XE
open List
set_option linter.unusedSimpArgs false
set_option linter.unusedVariables false
set_option linter.unusedSectionVars false
set_option maxRecDepth 100000
set_option maxHeartbeats 16000000
namespace Go.Av
open Go.Nt
theorem f49 (x:Int):G0 49 [.int .u8 x] []=some (.int .i64 (cA x),[]):=L4 x
theorem f81 (x:Int):G0 81 [.int .u8 x] []=some (.int .i64 (cA x),[]):=VX x
def wdI (x:Int):Bool:=decide (cA x=4) || decide (cA x=3)
def dgI (x:Int):Bool:=decide (cA x=3)
theorem VG (x:Int):G0 51 [.int .u8 x] []=some (.bool (wdI x),[]):=by
 refine aB F51 rfl rfl rfl ?_;by_cases h1:cA x=4
 ·simp only[F51,go_sem,f49,h1,wdI,Bool.true_or,Bool.or_true]
 ·simp only[F51,go_sem,f49,h1,wdI,Bool.false_or]
theorem VF (x:Int):G0 52 [.int .u8 x] []=some (.bool (dgI x),[]):=by
 refine aB F52 rfl rfl rfl ?_;simp only[F52,go_sem,f49,dgI]
def bt (s:List UInt8) (n:Nat):Int:=((s.getD n 0).toNat:Int)
theorem gX {s:List UInt8} {n:Nat} (h:n < s.length):s[n]?=some (s.getD n 0):=by
 simp [getD_eq_getElem?_getD,h]
def jn (inn:Int->Bool) (a b:Int) (s:List UInt8):Nat->Nat->Nat
 | 0,n=>n
 | k+1,n=>if n < s.length then (if inn (bt s n)=true then jn inn a b s k (n+1) else if (bt s n=a\/bt s n=b)/\n+1 < s.length/\inn (bt s (n+1))=true then jn inn a b s k (n+2) else n) else n
theorem btd (s:List UInt8) (n:Nat):(((s.getD n 0).toNat:Nat):Int)=bt s n:=rfl
theorem LR (g:Nat) (inn:Int->Bool) (hg:∀ x,G0 g [.int .u8 x] []=some (.bool (inn x),[])) (a b:UInt8) (s:List UInt8) (hs:s.length<=1000000):∀ (k n:Nat),s.length<=n+k->n<=s.length ->
  (s.length<=jn inn a.toNat b.toNat s k n->aC G0 mE (ST [(0,.str s),(1,.str [a,b]),(2,.fn g []),(7,.int .i64 n)] [] [])=some (.ex 0,ST [(0,.str s),(1,.str [a,b]),(2,.fn g []),(7,.int .i64 (jn inn a.toNat b.toNat s k n)),(11,.bool false)] [] [])) /\
  (jn inn a.toNat b.toNat s k n < s.length->aC G0 mE (ST [(0,.str s),(1,.str [a,b]),(2,.fn g []),(7,.int .i64 n)] [] [])=some (.ret,ST [(0,.str s),(1,.str [a,b]),(2,.fn g []),(6,.int .i64 (jn inn a.toNat b.toNat s k n)),(11,.bool true),(13,.bool false),(21,.bool false)] [] []))
 | 0,n,h1,h2=>by
  have h3:¬ (n:Int) < (s.length:Int):=by omega
  refine⟨fun _=>?_,fun h=>absurd h (by simp only[jn];omega)⟩;rw[aA (L:=mE) rfl];simp only[go_sem,h3,jn]
 | k+1,n,h1,h2=>by
  by_cases h3:n < s.length
  ·have h4:(n:Int) < (s.length:Int):=by omega
   have h5:=gX h3;have h0:(0:Int)<=(n:Int):=by omega
   by_cases h6:inn (bt s n)=true
   ·have ih:=LR g inn hg a b s hs k (n+1) (by omega) (by omega)
    have e:jn inn a.toNat b.toNat s (k+1) n=jn inn a.toNat b.toNat s k (n+1):=by simp only[jn,h3,h6,if_true]
    have hw:IntKind.i64.wrap ((n:Int)+1)=((n+1:Nat):Int):=by rw[w64 (by omega) (by omega)];rfl
    rw[e]
    constructor<;>intro h7
    ·rw[aA (L:=mE) rfl]
     simp only[go_sem,h4,h5,h0,btd,hg,h6,hw];rw[ih.1 h7]
    ·rw[aA (L:=mE) rfl]
     simp only[go_sem,h4,h5,h0,btd,hg,h6,hw];rw[ih.2 h7]
   ·have h6':inn (bt s n)=false:=by simpa using h6
    have hw:IntKind.i64.wrap ((n:Int)+1)=((n+1:Nat):Int):=by rw[w64 (by omega) (by omega)];rfl
    have hw2:IntKind.i64.wrap ((n:Int)+2)=((n+2:Nat):Int):=by rw[w64 (by omega) (by omega)];rfl
    have h9:(0:Int)<=((n+1:Nat):Int):=by omega
    have ab0:∀ x y:UInt8,([x,y]:List UInt8)[(0:Nat)]?=some x:=fun _ _=>rfl
    have ab1:∀ x y:UInt8,([x,y]:List UInt8)[(1:Nat)]?=some y:=fun _ _=>rfl
    by_cases h8:n+1 < s.length
    ·have h8':((n+1:Nat):Int) < (s.length:Int):=by omega
     have h10:=gX h8;have ih:=LR g inn hg a b s hs k (n+2) (by omega) (by omega);have e:jn inn a.toNat b.toNat s (k+1) n=if (bt s n=a.toNat\/bt s n=b.toNat)/\inn (bt s (n+1))=true then jn inn a.toNat b.toNat s k (n+2) else n:=by
      simp only[jn,h3,h6',h8,if_true,Bool.false_eq_true,if_false,true_and]
     rw[e];by_cases h11:inn (bt s (n+1))=true<;>by_cases h12:bt s n=(a.toNat:Int)<;>by_cases h13:bt s n=(b.toNat:Int)
     all_goals try replace h11:inn (bt s (n+1))=false:=eq_false_of_ne_true h11
     all_goals first | replace h12:=eq_false h12 | replace h12:=eq_true h12
     all_goals first | replace h13:=eq_false h13 | replace h13:=eq_true h13
     all_goals try simp only[h11,h12,h13,or_true,true_or,or_self,and_self,and_true,and_false,if_true,if_false,Bool.false_eq_true,eq_self]
     all_goals
      constructor<;>intro h7
      all_goals try exact absurd h7 (by omega)
      all_goals
       rw[aA (L:=mE) rfl];simp only[go_sem,h4,h5,h0,btd,hg,h6',hw,hw2,ab0,ab1,h12,h13,h8',h9,h10,h11,Int.reduceLE,Int.le_refl]
       try first | rw[ih.1 h7] | rw[ih.2 h7]
    ·have h8':¬ ((n+1:Nat):Int) < (s.length:Int):=by omega
     have e:jn inn a.toNat b.toNat s (k+1) n=n:=by
      simp only[jn,h3,h6',h8,if_true,Bool.false_eq_true,if_false,false_and,and_false]
     rw[e];by_cases h12:bt s n=(a.toNat:Int)<;>by_cases h13:bt s n=(b.toNat:Int)
     all_goals first | replace h12:=eq_false h12 | replace h12:=eq_true h12
     all_goals first | replace h13:=eq_false h13 | replace h13:=eq_true h13
     all_goals
      refine⟨fun h=>absurd h (by omega),fun _=>?_⟩;rw[aA (L:=mE) rfl];simp only[go_sem,h4,h5,h0,btd,hg,h6',hw,hw2,ab0,ab1,h12,h13,h8',Int.reduceLE,Int.le_refl]
  ·have h4:¬ (n:Int) < (s.length:Int):=by omega
   have e:jn inn a.toNat b.toNat s (k+1) n=n:=by simp only[jn,h3,if_false]
   rw[e];refine⟨fun _=>?_,fun h=>absurd h h3⟩;rw[aA (L:=mE) rfl];simp only[go_sem,h4]
theorem yD (inn:Int->Bool) (a b:Int) (s:List UInt8):∀ k n:Nat,n<=s.length->n<=jn inn a b s k n/\jn inn a b s k n<=s.length
 | 0,n,h=>⟨Nat.le_refl _,h⟩
 | k+1,n,h=>by
  simp only[jn];split
  ·split
   ·have:=yD inn a b s k (n+1) (by omega);omega
   ·split
    ·have:=yD inn a b s k (n+2) (by omega);omega
    ·omega
  ·omega
theorem QT (g:Nat) (inn:Int->Bool) (hg:∀ x,G0 g [.int .u8 x] []=some (.bool (inn x),[])) (a b:UInt8) (s:List UInt8) (hs:s.length<=1000000) (h1:1<=s.length) :
  G0 50 [.str s,.str [a,b],.fn g []] []=some (.int .i64 (jn inn a.toNat b.toNat s s.length 1),[]):=by
 refine aB F50 rfl rfl rfl ?_;have hx:=LR g inn hg a b s hs s.length 1 (by omega) h1;by_cases h2:s.length<=jn inn a.toNat b.toNat s s.length 1
 ·have h3:=hx.1 h2
  simp only[go_sem] at h3;simp only[F50,go_sem,h3]
 ·have h3:=hx.2 (by omega)
  simp only[go_sem] at h3;simp only[F50,go_sem,h3]
def bl (s:List UInt8):Nat->Nat->Nat
 | 0,n=>n
 | k+1,n=>if n < s.length/\cA (bt s n)=2 then bl s k (n+1) else n
theorem JG (s:List UInt8):∀ k n:Nat,n<=s.length->n<=bl s k n/\bl s k n<=s.length
 | 0,n,h=>⟨Nat.le_refl _,h⟩
 | k+1,n,h=>by
  simp only[bl];split
  ·have:=JG s k (n+1) (by omega);omega
  ·omega
theorem QI (s:List UInt8) (hs:s.length<=1000000):∀ k n:Nat,s.length<=n+k->n<=s.length ->
  aC G0 rV (ST [(0,.str s),(3,.int .i64 n)] [] [])=some (.ex 0,ST [(0,.str s),(3,.int .i64 (bl s k n)),(14,.bool false)] [] [])
 | 0,n,h1,h2=>by
  have h3:¬ (n:Int) < (s.length:Int):=by omega
  rw[aA (L:=rV) rfl];simp only[go_sem,h3,bl]
 | k+1,n,h1,h2=>by
  by_cases h3:n < s.length
  ·have h4:(n:Int) < (s.length:Int):=by omega
   have h0:(0:Int)<=(n:Int):=by omega
   have h5:=gX h3;have hw:IntKind.i64.wrap ((n:Int)+1)=((n+1:Nat):Int):=by rw[w64 (by omega) (by omega)];rfl
   by_cases h6:cA (bt s n)=2
   ·have ih:=QI s hs k (n+1) (by omega) (by omega)
    rw[aA (L:=rV) rfl];simp only[go_sem,h4,h5,h0,btd,f81,h6,hw,ih,bl,h3]
   ·rw[aA (L:=rV) rfl]
    simp only[go_sem,h4,h5,h0,btd,f81,h6,hw,bl,h3]
  ·have h4:¬ (n:Int) < (s.length:Int):=by omega
   rw[aA (L:=rV) rfl];simp only[go_sem,h4,bl,h3]
theorem QV (s:List UInt8) (hs:s.length<=1000000):G0 64 [.str s] []=some (.int .i64 (bl s s.length 0),[]):=by
 refine aB F64 rfl rfl rfl ?_;have hx:=QI s hs s.length 0 (by omega) (by omega);simp only[go_sem] at hx;simp only[F64,go_sem,hx]
theorem QK (s:List UInt8) (hs:s.length<=1000000):∀ k n:Nat,s.length<=n+k->n<=s.length ->
  aC G0 rW (ST [(0,.str s),(4,.int .i64 n),(8,.bool false),(12,.bool false),(16,.bool true)] [] [])=some (.ex 1,ST [(0,.str s),(4,.int .i64 (bl s k n)),(8,.bool false),(12,.bool false),(16,.bool true),(28,.bool false)] [] [])
 | 0,n,h1,h2=>by
  have h3:¬ (n:Int) < (s.length:Int):=by omega
  rw[aA (L:=rW) rfl];simp only[go_sem,h3,bl]
 | k+1,n,h1,h2=>by
  by_cases h3:n < s.length
  ·have h4:(n:Int) < (s.length:Int):=by omega
   have h0:(0:Int)<=(n:Int):=by omega
   have h5:=gX h3;have hw:IntKind.i64.wrap ((n:Int)+1)=((n+1:Nat):Int):=by rw[w64 (by omega) (by omega)];rfl
   by_cases h6:cA (bt s n)=2
   ·have ih:=QK s hs k (n+1) (by omega) (by omega)
    rw[aA (L:=rW) rfl];simp only[go_sem,h4,h5,h0,btd,f49,h6,hw,ih,bl,h3]
   ·rw[aA (L:=rW) rfl]
    simp only[go_sem,h4,h5,h0,btd,f49,h6,hw,bl,h3]
  ·have h4:¬ (n:Int) < (s.length:Int):=by omega
   rw[aA (L:=rW) rfl];simp only[go_sem,h4,bl,h3]
def nxK (s:List UInt8):Int:=if cA (bt s 0)=4 then 6 else if cA (bt s 0)=3 then 7 else if cA (bt s 0)=2 then 8 else 9
def nxN (s:List UInt8):Nat:=if cA (bt s 0)=4 then jn wdI 39 45 s s.length 1 else if cA (bt s 0)=3 then jn dgI 46 44 s s.length 1 else if cA (bt s 0)=2 then bl s s.length 1 else 1
theorem CF (s:List UInt8) (h:1<=s.length):1<=nxN s/\nxN s<=s.length:=by
 unfold nxN;split
 ·have:=yD wdI 39 45 s s.length 1 h;omega
 ·split
  ·have:=yD dgI 46 44 s s.length 1 h;omega
  ·split
   ·have:=JG s s.length 1 h;omega
   ·omega
theorem VK (s:List UInt8) (hs:s.length<=1000000) (h1:1<=s.length):G0 35 [.str s] []=some (.tup [.int .i64 (nxK s),.int .i64 (nxN s)],[]):=by
 refine aB F35 rfl rfl rfl ?_;have h5:=gX (s:=s) (n:=0) (by omega);by_cases a1:cA (bt s 0)=4
 ·have hx:=QT 51 wdI VG 39 45 s hs h1
  simp only[F35,go_sem,Int.le_refl,h5,btd,f49,a1,hx,nxK,nxN];rfl
 by_cases a2:cA (bt s 0)=3
 ·have hx:=QT 52 dgI VF 46 44 s hs h1
  simp only[F35,go_sem,Int.le_refl,h5,btd,f49,a1,a2,hx,nxK,nxN];rfl
 by_cases a3:cA (bt s 0)=2
 ·have hx:=QK s hs s.length 1 (by omega) h1
  simp only[go_sem] at hx;simp only[F35,go_sem,Int.le_refl,h5,btd,f49,a1,a2,a3,hx,nxK,nxN]
 ·simp only[F35,go_sem,Int.le_refl,h5,btd,f49,a1,a2,a3,nxK,nxN]
end Go.Av
namespace Go.Av
open Go.Nt
theorem LT (s:List UInt8) (hs:s.length<=1000000):∀ (k n:Nat),s.length<=n+k->n<=s.length ->
  ∃ l',aC G0 jH (ST [(0,.str s),(3,.int .i64 n),(13,.bool false)] [] [])=some (.ex 0,ST l' [] [])/\aF .any l' 3=.int .i64 (jn wdI 39 45 s k n)
 | 0,n,h1,h2=>by
  have h3:¬ (n:Int) < (s.length:Int):=by omega
  refine Exists.intro ?_ (And.intro ?_ ?_)
  rotate_left 1
  ·rw[aA (L:=jH) rfl]
   simp only[go_sem,h3,jn];rfl
  ·rfl
 | k+1,n,h1,h2=>by
  by_cases h3:n < s.length
  ·have h4:(n:Int) < (s.length:Int):=by omega
   have h5:=gX h3;have h0:(0:Int)<=(n:Int):=by omega
   have hw:IntKind.i64.wrap ((n:Int)+1)=((n+1:Nat):Int):=by rw[w64 (by omega) (by omega)];rfl
   have hw2:IntKind.i64.wrap ((n:Int)+2)=((n+2:Nat):Int):=by rw[w64 (by omega) (by omega)];rfl
   by_cases h6:wdI (bt s n)=true
   ·obtain⟨l',ih,ih2⟩:=LT s hs k (n+1) (by omega) (by omega)
    have e:jn wdI 39 45 s (k+1) n=jn wdI 39 45 s k (n+1):=by simp only[jn,h3,h6,if_true]
    rw[e];refine⟨l',?_,ih2⟩;rw[aA (L:=jH) rfl];by_cases dc4:cA (bt s n)=4
    ·simp only[go_sem,h4,h5,h0,btd,f81,dc4,hw]
     exact ih
    ·have dc3:cA (bt s n)=3:=by simpa [wdI,dc4] using h6
     simp only[go_sem,h4,h5,h0,btd,f81,dc4,dc3,hw];exact ih
   ·have dc4:¬ cA (bt s n)=4:=by intro h;simp [wdI,h] at h6
    have dc3:¬ cA (bt s n)=3:=by intro h;simp [wdI,h] at h6
    have h6':wdI (bt s n)=false:=by simpa using h6
    have h9:(0:Int)<=((n+1:Nat):Int):=by omega
    by_cases h12:bt s n=39\/bt s n=45
    ·by_cases h8:n+1 < s.length
     ·have h8':((n+1:Nat):Int) < (s.length:Int):=by omega
      have h10:=gX h8;by_cases h11:wdI (bt s (n+1))=true
      ·obtain⟨l',ih,ih2⟩:=LT s hs k (n+2) (by omega) (by omega)
       have e:jn wdI 39 45 s (k+1) n=jn wdI 39 45 s k (n+2):=by
        simp only[jn];rw[if_pos h3,if_neg h6,if_pos ⟨h12,h8,h11⟩]
       rw[e];refine⟨l',?_,ih2⟩;rw[aA (L:=jH) rfl];have d:(bt s n=39)=True\/((bt s n=39)=False/\(bt s n=45)=True):=by
        by_cases hq:bt s n=39
        ·exact .inl (eq_true hq)
        ·exact .inr ⟨eq_false hq,eq_true (h12.resolve_left hq)⟩
       by_cases d4:cA (bt s (n+1))=4
       ·rcases d with d | ⟨d,d'⟩
        ·simp only[go_sem,h4,h5,h0,btd,f81,dc4,dc3,hw,hw2,d,h8',h9,h10,d4]
         exact ih
        ·simp only[go_sem,h4,h5,h0,btd,f81,dc4,dc3,hw,hw2,d,d',h8',h9,h10,d4]
         exact ih
       ·have d3:cA (bt s (n+1))=3:=by simpa [wdI,d4] using h11
        rcases d with d | ⟨d,d'⟩
        ·simp only[go_sem,h4,h5,h0,btd,f81,dc4,dc3,hw,hw2,d,h8',h9,h10,d4,d3]
         exact ih
        ·simp only[go_sem,h4,h5,h0,btd,f81,dc4,dc3,hw,hw2,d,d',h8',h9,h10,d4,d3]
         exact ih
      ·have e:jn wdI 39 45 s (k+1) n=n:=by
        simp only[jn];rw[if_pos h3,if_neg h6,if_neg (fun h=>h11 h.2.2)]
       have d4:¬ cA (bt s (n+1))=4:=by intro h;simp [wdI,h] at h11
       have d3:¬ cA (bt s (n+1))=3:=by intro h;simp [wdI,h] at h11
       rw[e];have d:(bt s n=39)=True\/((bt s n=39)=False/\(bt s n=45)=True):=by
        by_cases hq:bt s n=39
        ·exact .inl (eq_true hq)
        ·exact .inr ⟨eq_false hq,eq_true (h12.resolve_left hq)⟩
       rcases d with d | ⟨d,d'⟩
       ·refine Exists.intro ?_ (And.intro ?_ ?_)
        rotate_left 1
        ·rw[aA (L:=jH) rfl]
         simp only[go_sem,h4,h5,h0,btd,f81,dc4,dc3,hw,hw2,d,h8',h9,h10,d4,d3];rfl
        ·rfl
       ·refine Exists.intro ?_ (And.intro ?_ ?_)
        rotate_left 1
        ·rw[aA (L:=jH) rfl]
         simp only[go_sem,h4,h5,h0,btd,f81,dc4,dc3,hw,hw2,d,d',h8',h9,h10,d4,d3];rfl
        ·rfl
     ·have h8':¬ ((n+1:Nat):Int) < (s.length:Int):=by omega
      have e:jn wdI 39 45 s (k+1) n=n:=by
       simp only[jn];rw[if_pos h3,if_neg h6,if_neg (fun h=>h8 h.2.1)]
      rw[e];have d:(bt s n=39)=True\/((bt s n=39)=False/\(bt s n=45)=True):=by
       by_cases hq:bt s n=39
       ·exact .inl (eq_true hq)
       ·exact .inr ⟨eq_false hq,eq_true (h12.resolve_left hq)⟩
      rcases d with d | ⟨d,d'⟩
      ·refine Exists.intro ?_ (And.intro ?_ ?_)
       rotate_left 1
       ·rw[aA (L:=jH) rfl]
        simp only[go_sem,h4,h5,h0,btd,f81,dc4,dc3,hw,hw2,d,h8',h9];rfl
       ·rfl
      ·refine Exists.intro ?_ (And.intro ?_ ?_)
       rotate_left 1
       ·rw[aA (L:=jH) rfl]
        simp only[go_sem,h4,h5,h0,btd,f81,dc4,dc3,hw,hw2,d,d',h8',h9];rfl
       ·rfl
    ·have e:jn wdI 39 45 s (k+1) n=n:=by
      simp only[jn];rw[if_pos h3,if_neg h6,if_neg (fun h=>h12 h.1)]
     rw[e];have d:(bt s n=39)=False:=eq_false (fun h=>h12 (.inl h));have d':(bt s n=45)=False:=eq_false (fun h=>h12 (.inr h));refine Exists.intro ?_ (And.intro ?_ ?_)
     rotate_left 1
     ·rw[aA (L:=jH) rfl]
      simp only[go_sem,h4,h5,h0,btd,f81,dc4,dc3,hw,hw2,d,d',h9];rfl
     ·rfl
  ·have h4:¬ (n:Int) < (s.length:Int):=by omega
   have e:jn wdI 39 45 s (k+1) n=n:=by simp only[jn,h3,if_false]
   rw[e];refine Exists.intro ?_ (And.intro ?_ ?_)
   rotate_left 1
   ·rw[aA (L:=jH) rfl]
    simp only[go_sem,h4];rfl
   ·rfl
theorem LS (s:List UInt8) (hs:s.length<=1000000):∀ (k n:Nat),s.length<=n+k->n<=s.length ->
  ∃ l',aC G0 jG (ST [(0,.str s),(3,.int .i64 n),(11,.bool false)] [] [])=some (.ex 0,ST l' [] [])/\aF .any l' 3=.int .i64 (jn dgI 46 44 s k n)
 | 0,n,h1,h2=>by
  have h3:¬ (n:Int) < (s.length:Int):=by omega
  refine Exists.intro ?_ (And.intro ?_ ?_)
  rotate_left 1
  ·rw[aA (L:=jG) rfl]
   simp only[go_sem,h3,jn];rfl
  ·rfl
 | k+1,n,h1,h2=>by
  by_cases h3:n < s.length
  ·have h4:(n:Int) < (s.length:Int):=by omega
   have h5:=gX h3;have h0:(0:Int)<=(n:Int):=by omega
   have hw:IntKind.i64.wrap ((n:Int)+1)=((n+1:Nat):Int):=by rw[w64 (by omega) (by omega)];rfl
   have hw2:IntKind.i64.wrap ((n:Int)+2)=((n+2:Nat):Int):=by rw[w64 (by omega) (by omega)];rfl
   by_cases h6:dgI (bt s n)=true
   ·obtain⟨l',ih,ih2⟩:=LS s hs k (n+1) (by omega) (by omega)
    have e:jn dgI 46 44 s (k+1) n=jn dgI 46 44 s k (n+1):=by simp only[jn,h3,h6,if_true]
    rw[e];refine⟨l',?_,ih2⟩;rw[aA (L:=jG) rfl];have dc3:cA (bt s n)=3:=by simpa [dgI] using h6
    simp only[go_sem,h4,h5,h0,btd,f81,dc3,hw];exact ih
   ·have dc3:¬ cA (bt s n)=3:=by intro h;simp [dgI,h] at h6
    have h9:(0:Int)<=((n+1:Nat):Int):=by omega
    by_cases h12:bt s n=46\/bt s n=44
    ·have d:(bt s n=46)=True\/((bt s n=46)=False/\(bt s n=44)=True):=by
      by_cases hq:bt s n=46
      ·exact .inl (eq_true hq)
      ·exact .inr ⟨eq_false hq,eq_true (h12.resolve_left hq)⟩
     by_cases h8:n+1 < s.length
     ·have h8':((n+1:Nat):Int) < (s.length:Int):=by omega
      have h10:=gX h8;by_cases h11:dgI (bt s (n+1))=true
      ·obtain⟨l',ih,ih2⟩:=LS s hs k (n+2) (by omega) (by omega)
       have e:jn dgI 46 44 s (k+1) n=jn dgI 46 44 s k (n+2):=by
        simp only[jn];rw[if_pos h3,if_neg h6,if_pos ⟨h12,h8,h11⟩]
       rw[e];refine⟨l',?_,ih2⟩;rw[aA (L:=jG) rfl];have d3:cA (bt s (n+1))=3:=by simpa [dgI] using h11
       rcases d with d | ⟨d,d'⟩
       ·simp only[go_sem,h4,h5,h0,btd,f81,dc3,hw,hw2,d,h8',h9,h10,d3]
        exact ih
       ·simp only[go_sem,h4,h5,h0,btd,f81,dc3,hw,hw2,d,d',h8',h9,h10,d3]
        exact ih
      ·have e:jn dgI 46 44 s (k+1) n=n:=by
        simp only[jn];rw[if_pos h3,if_neg h6,if_neg (fun h=>h11 h.2.2)]
       have d3:¬ cA (bt s (n+1))=3:=by intro h;simp [dgI,h] at h11
       rw[e];rcases d with d | ⟨d,d'⟩
       ·refine Exists.intro ?_ (And.intro ?_ ?_)
        rotate_left 1
        ·rw[aA (L:=jG) rfl]
         simp only[go_sem,h4,h5,h0,btd,f81,dc3,hw,hw2,d,h8',h9,h10,d3];rfl
        ·rfl
       ·refine Exists.intro ?_ (And.intro ?_ ?_)
        rotate_left 1
        ·rw[aA (L:=jG) rfl]
         simp only[go_sem,h4,h5,h0,btd,f81,dc3,hw,hw2,d,d',h8',h9,h10,d3];rfl
        ·rfl
     ·have h8':¬ ((n+1:Nat):Int) < (s.length:Int):=by omega
      have e:jn dgI 46 44 s (k+1) n=n:=by
       simp only[jn];rw[if_pos h3,if_neg h6,if_neg (fun h=>h8 h.2.1)]
      rw[e];rcases d with d | ⟨d,d'⟩
      ·refine Exists.intro ?_ (And.intro ?_ ?_)
       rotate_left 1
       ·rw[aA (L:=jG) rfl]
        simp only[go_sem,h4,h5,h0,btd,f81,dc3,hw,hw2,d,h8',h9];rfl
       ·rfl
      ·refine Exists.intro ?_ (And.intro ?_ ?_)
       rotate_left 1
       ·rw[aA (L:=jG) rfl]
        simp only[go_sem,h4,h5,h0,btd,f81,dc3,hw,hw2,d,d',h8',h9];rfl
       ·rfl
    ·have e:jn dgI 46 44 s (k+1) n=n:=by
      simp only[jn];rw[if_pos h3,if_neg h6,if_neg (fun h=>h12 h.1)]
     rw[e];have d:(bt s n=46)=False:=eq_false (fun h=>h12 (.inl h));have d':(bt s n=44)=False:=eq_false (fun h=>h12 (.inr h));refine Exists.intro ?_ (And.intro ?_ ?_)
     rotate_left 1
     ·rw[aA (L:=jG) rfl]
      simp only[go_sem,h4,h5,h0,btd,f81,dc3,hw,hw2,d,d',h9];rfl
     ·rfl
  ·have h4:¬ (n:Int) < (s.length:Int):=by omega
   have e:jn dgI 46 44 s (k+1) n=n:=by simp only[jn,h3,if_false]
   rw[e];refine Exists.intro ?_ (And.intro ?_ ?_)
   rotate_left 1
   ·rw[aA (L:=jG) rfl]
    simp only[go_sem,h4];rfl
   ·rfl
theorem oK {s:List UInt8} (h:1<=s.length):(s == [])=false:=by
 cases s with
 | nil=>simp at h
 | cons a l=>rfl
theorem VI (s:List UInt8) (hs:s.length<=1000000) (h1:1<=s.length) (a:cA (bt s 0)=4):G0 62 [.str s] []=some (.int .i64 (nxN s),[]):=by
 refine aB F62 rfl rfl rfl ?_;have h5:=gX (s:=s) (n:=0) (by omega);obtain⟨l',hx,hx2⟩:=LT s hs s.length 1 (by omega) h1;simp only[go_sem] at hx;simp only[F62,go_sem,Int.le_refl,oK h1,h5,btd,f81,a,hx,hx2,eD,dQ,nxN]
theorem DK (s:List UInt8) (h1:1<=s.length) (a:¬ cA (bt s 0)=4):G0 62 [.str s] []=some (.int .i64 0,[]):=by
 refine aB F62 rfl rfl rfl ?_;have h5:=gX (s:=s) (n:=0) (by omega);simp only[F62,go_sem,Int.le_refl,oK h1,h5,btd,f81,a]
theorem VH (s:List UInt8) (hs:s.length<=1000000) (h1:1<=s.length) (a:cA (bt s 0)=3):G0 63 [.str s] []=some (.int .i64 (nxN s),[]):=by
 refine aB F63 rfl rfl rfl ?_;have h5:=gX (s:=s) (n:=0) (by omega);obtain⟨l',hx,hx2⟩:=LS s hs s.length 1 (by omega) h1;simp only[go_sem] at hx;simp only[F63,go_sem,Int.le_refl,oK h1,h5,btd,f81,a,hx,hx2,eD,dQ,nxN]
theorem DJ (s:List UInt8) (h1:1<=s.length) (a:¬ cA (bt s 0)=3):G0 63 [.str s] []=some (.int .i64 0,[]):=by
 refine aB F63 rfl rfl rfl ?_;have h5:=gX (s:=s) (n:=0) (by omega);simp only[F63,go_sem,Int.le_refl,oK h1,h5,btd,f81,a]
theorem yU (s:List UInt8):∀ k k' n:Nat,s.length<=n+k->s.length<=n+k'->bl s k n=bl s k' n
 | 0,0,_,_,_=>rfl
 | 0,k'+1,n,h,_=>by simp only[bl];rw[if_neg (by omega)]
 | k+1,0,n,_,h=>by simp only[bl];rw[if_neg (by omega)]
 | k+1,k'+1,n,h,h'=>by simp only[bl];rw[yU s k k' (n+1) (by omega) (by omega)]
theorem QU (s:List UInt8) (hs:s.length<=1000000) (h1:1<=s.length) (a:cA (bt s 0)=2):G0 64 [.str s] []=some (.int .i64 (nxN s),[]):=by
 rw[QV s hs]
 have:bl s s.length 0=nxN s:=by
  obtain⟨k,hk⟩:∃ k,s.length=k+1:=⟨s.length - 1,by omega⟩
  simp only[nxN,a,Int.reduceEq,if_false,if_true];rw[show bl s s.length 0=bl s k 1 by rw[hk];simp only[bl];rw[if_pos ⟨by omega,a⟩]];exact yU s _ _ _ (by omega) (by omega)
 rw[this]
theorem DI (s:List UInt8) (hs:s.length<=1000000) (h1:1<=s.length) (a:¬ cA (bt s 0)=2):G0 64 [.str s] []=some (.int .i64 0,[]):=by
 rw[QV s hs]
 have:bl s s.length 0=0:=by
  obtain⟨k,hk⟩:∃ k,s.length=k+1:=⟨s.length - 1,by omega⟩
  rw[hk];simp only[bl];rw[if_neg (fun h=>a h.2)]
 rw[this];rfl
end Go.Av
namespace Go.Av
open Go.Nt
def sP (b:UInt8):UInt8:=if (65:Int)<=(b.toNat:Int)/\(b.toNat:Int)<=90 then b+32 else b
def iP (s:List UInt8):List UInt8:=s.map sP
def fQ (s:List UInt8) (i:Nat):List UInt8:=iP (s.take i)++s.drop i
theorem xW (b:UInt8) (h:(65:Int)<=(b.toNat:Int)/\(b.toNat:Int)<=90):((sP b).toNat:Int)=(b.toNat:Int)+32:=by
 unfold sP;rw[if_pos h];have h2:b.toNat<=90:=by omega
 rw[UInt8.toNat_add];show (((b.toNat+32) % 256:Nat):Int)=_;omega
theorem lO (s:List UInt8) (i:Nat):(fQ s i).length=s.length:=by
 simp [fQ,iP];omega
theorem sO (s:List UInt8) (i:Nat) (h:i < s.length):(fQ s i)[i]?=some (s.getD i 0):=by
 unfold fQ;rw[getElem?_append_right (by simp [iP];omega)];simp [iP,getD_eq_getElem?_getD,h,Nat.min_eq_left (Nat.le_of_lt h)]
theorem mQ (s:List UInt8) (i:Nat) (h:i < s.length):fQ s (i+1)=(fQ s i).set i (sP (s.getD i 0)):=by
 apply ext_getElem?;intro j;rw[getElem?_set];simp only[lO];unfold fQ iP;by_cases h1:i=j
 ·subst h1
  rw[if_pos rfl,if_pos h,getElem?_append_left (by simp;omega)];simp [getD_eq_getElem?_getD,h]
 ·rw[if_neg h1]
  by_cases h2:j < i
  ·rw[getElem?_append_left (by simp;omega),getElem?_append_left (by simp;omega)]
   simp [getElem?_take,h2,Nat.lt_succ_of_lt h2]
  ·rw[getElem?_append_right (by simp;omega),getElem?_append_right (by simp;omega)]
   simp only[length_map,length_take,getElem?_drop]
   congr 1;omega
theorem rG (s:List UInt8) (i:Nat) (h:i < s.length) (hl:sP (s.getD i 0)=s.getD i 0):fQ s (i+1)=fQ s i:=by
 rw[mQ s i h,hl];apply ext_getElem?;intro j;rw[getElem?_set];split
 ·rename_i e;subst e
  rw[if_pos (by rw[lO];exact h),sO s i h]
 ·rfl
theorem uI (s:List UInt8):fQ s s.length=iP s:=by simp [fQ]
theorem rF (s:List UInt8):fQ s 0=s:=by simp [fQ,iP]
theorem kN (s:List UInt8):(bY s).length=s.length:=by simp [bY]
theorem rR {s:List UInt8} {i:Nat} {b:UInt8} (h:s[i]?=some b):(bY s)[i]?=some (.int .u8 b.toNat):=by simp [bY,h]
theorem qD (s:List UInt8) (i:Nat) (b:UInt8):(bY s).set i (.int .u8 b.toNat)=bY (s.set i b):=by simp [bY,map_set]
theorem eS (s:List UInt8):bV (bY s)=true:=by
 cases s with
 | nil=>rfl
 | cons a l=>rfl
theorem o8:∀ (i:Nat) (cs:List AV) (x:AV),i < cs.length->fP i [x] cs=some (cs.set i x)
 | 0,[],_,h=>by simp at h
 | 0,c :: cs,x,_=>by simp only[B7,tZ,Option.map_some,set_cons_zero]
 | i+1,[],_,h=>by simp at h
 | i+1,c :: cs,x,h=>by simp only[vY,o8 i cs x (by simpa using h),Option.map_some,set_cons_succ]
theorem IntKind.wrap_u8 (x:Int):IntKind.u8.wrap x=x % 256:=by
 rfl
theorem QL (s:List UInt8) (hs:s.length<=1000000):∀ (k i:Nat),i+k=s.length ->
  aC G0 vD (ST [(3,.ss 0 0 s.length 1),(8,.int .i64 s.length),(9,.int .i64 i)] [] [bY (fQ s i)]) =
  some (.ex 0,ST [(3,.ss 0 0 s.length 1),(8,.int .i64 s.length),(9,.int .i64 s.length),(10,.bool false)] [] [bY (iP s)])
 | 0,i,h=>by
  have:i=s.length:=by omega
  subst this;rw[aA (L:=vD) rfl];simp only[go_sem,Int.lt_irrefl,uI]
 | k+1,i,h=>by
  have h3:i < s.length:=by omega
  have h4:(i:Int) < (s.length:Int):=by omega
  have h0:(0:Int)<=(i:Int):=by omega
  have hw:=wI (i:=i) (by omega)
  have ih:=QL s hs k (i+1) (by omega);have ha:=rR (sO s i h3);by_cases hl:(65:Int)<=((s.getD i 0).toNat:Int)/\((s.getD i 0).toNat:Int)<=90
  ·have hn:=xW _ hl
   have hw8:IntKind.u8.wrap (((s.getD i 0).toNat:Int)+32)=((sP (s.getD i 0)).toNat:Int):=by
    rw[hn,IntKind.wrap_u8];omega
   have hp:∀ x,fP i [x] (bY (fQ s i))=some ((bY (fQ s i)).set i x):=fun x=>o8 _ _ x (by rw[kN,lO];exact h3)
   rw[aA (L:=vD) rfl];simp only[go_sem,h4,h0,hw,Nat.mul_one,Nat.zero_add,ha,eS,hl.1,hl.2,hw8,hp,qD,set_cons_zero,<- mQ s i h3];exact ih
  ·have e:fQ s (i+1)=fQ s i:=rG s i h3 (by unfold sP;rw[if_neg hl])
   rw[e] at ih;rw[aA (L:=vD) rfl];by_cases h6:(65:Int)<=((s.getD i 0).toNat:Int)
   ·have h7:¬ ((s.getD i 0).toNat:Int)<=90:=fun h=>hl ⟨h6,h⟩
    simp only[go_sem,h4,h0,hw,Nat.mul_one,Nat.zero_add,ha,eS,h6,h7];exact ih
   ·simp only[go_sem,h4,h0,hw,Nat.mul_one,Nat.zero_add,ha,eS,h6]
    exact ih
theorem xH (s:List UInt8):cN 0 s.length 1 (bY s)=some (aM s):=by
 have h1:∀ s:List UInt8,(bY s).all (fun x=>a8 (aH x))=true:=by
  intro s
  induction s with
  | nil=>rfl
  | cons a l ih=>simp [bY,aH,a8]
 have h2:∀ s:List UInt8,(bY s).map aH=bY s:=by
  intro s;simp [bY,aH]
 have h3:∀ s:List UInt8,cH 1 s.length (bY s)=aM s:=by
  intro s
  induction s with
  | nil=>rfl
  | cons a l ih =>
   have:bY (a :: l)=.int .u8 (a.toNat:Int) :: bY l:=rfl
   rw[this];simpa [cH,aM] using ih
 unfold cN;have h4:((bY s).drop 0).take (s.length*1)=bY s:=by rw[Nat.mul_one,drop_zero];exact take_of_length_le (by rw[kN];exact Nat.le_refl _)
 rw[h4,h2,h3,if_pos ⟨by decide,by simp [bY],h1 s⟩]
theorem VM (s:List UInt8) (hs:s.length<=1000000):G0 93 [.str s] []=some (.str (iP s),[]):=by
 refine aB F93 rfl rfl rfl ?_;have hx:=QL s hs s.length 0 (by omega);rw[rF] at hx;have hb:s.length<=140737488355328:=by omega
 have hr:=xH (iP s);have hll:(iP s).length=s.length:=by simp [iP]
 rw[hll] at hr;simp only[go_sem] at hx;simp only[F93,go_sem,hb,hx,hr]
theorem QJ (s:List UInt8) (hs:s.length<=1000000):∀ (k i:Nat),i+k=s.length ->
  aC G0 vF (ST [(3,.ss 0 0 s.length 1),(8,.ss 0 0 s.length 1),(9,.int .i64 s.length),(10,.int .i64 i)] [] [bY (fQ s i)]) =
  some (.ex 0,ST [(3,.ss 0 0 s.length 1),(8,.ss 0 0 s.length 1),(9,.int .i64 s.length),(10,.int .i64 s.length),(11,.bool false)] [] [bY (iP s)])
 | 0,i,h=>by
  have:i=s.length:=by omega
  subst this;rw[aA (L:=vF) rfl];simp only[go_sem,Int.lt_irrefl,uI]
 | k+1,i,h=>by
  have h3:i < s.length:=by omega
  have h4:(i:Int) < (s.length:Int):=by omega
  have h0:(0:Int)<=(i:Int):=by omega
  have hw:=wI (i:=i) (by omega)
  have ih:=QJ s hs k (i+1) (by omega);have ha:=rR (sO s i h3);by_cases hl:(65:Int)<=((s.getD i 0).toNat:Int)/\((s.getD i 0).toNat:Int)<=90
  ·have hn:=xW _ hl
   have hw8:IntKind.u8.wrap (IntKind.u8.wrap (((s.getD i 0).toNat:Int)+97) - 65)=((sP (s.getD i 0)).toNat:Int):=by
    rw[hn,IntKind.wrap_u8,IntKind.wrap_u8];omega
   have hp:∀ x,fP i [x] (bY (fQ s i))=some ((bY (fQ s i)).set i x):=fun x=>o8 _ _ x (by rw[kN,lO];exact h3)
   rw[aA (L:=vF) rfl];simp only[go_sem,h4,h0,hw,Nat.mul_one,Nat.zero_add,ha,eS,hl.1,hl.2,hw8,hp,qD,set_cons_zero,<- mQ s i h3];exact ih
  ·have e:fQ s (i+1)=fQ s i:=rG s i h3 (by unfold sP;rw[if_neg hl])
   rw[e] at ih;rw[aA (L:=vF) rfl];by_cases h6:(65:Int)<=((s.getD i 0).toNat:Int)
   ·have h7:¬ ((s.getD i 0).toNat:Int)<=90:=fun h=>hl ⟨h6,h⟩
    simp only[go_sem,h4,h0,hw,Nat.mul_one,Nat.zero_add,ha,eS,h6,h7];exact ih
   ·simp only[go_sem,h4,h0,hw,Nat.mul_one,Nat.zero_add,ha,eS,h6]
    exact ih
theorem VJ (s:List UInt8) (hs:s.length<=1000000):G0 87 [.str s] []=some (.str (iP s),[]):=by
 refine aB F87 rfl rfl rfl ?_;have hx:=QJ s hs s.length 0 (by omega);rw[rF] at hx;have hb:s.length<=140737488355328:=by omega
 have hr:=xH (iP s);have hll:(iP s).length=s.length:=by simp [iP]
 rw[hll] at hr;simp only[go_sem] at hx;simp only[F87,go_sem,hb,hx,hr]
def kyF (k:Int) (s:List UInt8):List UInt8:=if k=6 then iP s else s
theorem QX (k i:Int) (s:List UInt8) (hs:s.length<=1000000):G0 89 [.agg [.int .i64 k,.str s,.int .i64 i]] []=some (.str (kyF k s),[]):=by
 refine aB F89 rfl rfl rfl ?_;by_cases h1:k=6
 ·simp only[F89,go_sem,h1,kyF,VM s hs]
 ·simp only[F89,go_sem,h1,kyF]
theorem QW (k i:Int) (s:List UInt8) (hs:s.length<=1000000):G0 75 [.agg [.int .i64 k,.str s,.int .i64 i]] []=some (.str (kyF k s),[]):=by
 refine aB F75 rfl rfl rfl ?_;by_cases h1:k=6
 ·simp only[F75,go_sem,h1,kyF,VJ s hs]
 ·simp only[F75,go_sem,h1,kyF]
def l4:Nat->List UInt8->List Tk
 | 0,_=>[]
 | k+1,s=>if 1<=s.length then (nxK s,s.take (nxN s),0) :: l4 k (s.drop (nxN s)) else []
theorem QM:∀ (k:Nat) (s:List UInt8) (md:Own) (out:List Tk),md≠.no->s.length<=k->out.length+s.length<=1000000 ->
  ∃ md',aC G0 vH (ST [(0,.str s),(3,.sl md 3 (tks out))] [] [])=some (.ex 0,ST [(0,.str []),(3,.sl md' 3 (tks (out++l4 k s))),(11,.bool false)] [] [])
 | 0,s,md,out,hm,h1,h2=>by
  have:s=[]:=eq_nil_of_length_eq_zero (by omega)
  subst this;refine⟨md,?_⟩;rw[aA (L:=vH) rfl];simp only[go_sem,l4,Int.lt_irrefl]
 | k+1,s,md,out,hm,h1,h2=>by
  by_cases h3:1<=s.length
  ·have hn:=CF s h3
   obtain⟨md',ih⟩:=QM k (s.drop (nxN s)) .own (out++[(nxK s,s.take (nxN s),0)]) (by decide) (by simp;omega) (by simp;omega);have h4:(0:Int) < (s.length:Int):=by omega
   have h5:(0:Int) < (nxN s:Int):=by omega
   have h6:(0:Int)<=(nxN s:Int):=by omega
   have h7:(nxN s:Int)<=(s.length:Int):=by omega
   have hs:s.length<=1000000:=by omega
   have ha:cK 32 (out.length+1)=true:=bD (by decide) (by omega);refine⟨md',?_⟩;rw[aA (L:=vH) rfl];simp only[l4,h3,if_true];rw[append_assoc] at ih;by_cases a1:cA (bt s 0)=4
   ·have dk1:nxK s=6:=by simp only[nxK,a1,if_true]
    rw[dk1] at ih ⊢;simp only[go_sem,h4,VI s hs h3 a1,DJ s h3 (by omega),DI s hs h3 (by omega),h5,h6,h7,Int.lt_irrefl,bH md _ hm 3 32 (by decide),aE,ha,g7,dN];exact ih
   by_cases a2:cA (bt s 0)=3
   ·have dk1:nxK s=7:=by rw[nxK,if_neg a1,if_pos a2]
    rw[dk1] at ih ⊢;simp only[go_sem,h4,DK s h3 a1,VH s hs h3 a2,DI s hs h3 (by omega),h5,h6,h7,Int.lt_irrefl,bH md _ hm 3 32 (by decide),aE,ha,g7,dN];exact ih
   by_cases a3:cA (bt s 0)=2
   ·have dk1:nxK s=8:=by rw[nxK,if_neg a1,if_neg a2,if_pos a3]
    rw[dk1] at ih ⊢;simp only[go_sem,h4,DK s h3 a1,DJ s h3 a2,QU s hs h3 a3,h5,h6,h7,Int.lt_irrefl,bH md _ hm 3 32 (by decide),aE,ha,g7,dN];exact ih
   ·have dk1:nxK s=9:=by simp only[nxK,a1,a2,a3,if_true,if_false]
    have n1:nxN s=1:=by simp only[nxN,a1,a2,a3,if_true,if_false]
    have h8:(1:Int)<=(s.length:Int):=by omega
    rw[dk1,n1] at ih ⊢;simp only[go_sem,h4,DK s h3 a1,DJ s h3 a2,DI s hs h3 a3,h8,Int.lt_irrefl,bH md _ hm 3 32 (by decide),aE,ha,g7,dN];exact ih
  ·have:s=[]:=eq_nil_of_length_eq_zero (by omega)
   subst this;refine⟨md,?_⟩;rw[aA (L:=vH) rfl];simp only[go_sem,l4,Int.lt_irrefl]
def s8 (s:List UInt8):List Tk:=l4 s.length s
theorem VN (s:List UInt8) (hs:s.length<=1000000):G0 41 [.str s] []=some (.sl .no 3 (tks (s8 s)),[]):=by
 refine aB F41 rfl rfl rfl ?_;obtain⟨md',hx⟩:=QM s.length s .full [] (by decide) (by omega) (by simpa using hs);simp only[go_sem,dZ] at hx;simp only[F41,go_sem,hx,s8]
end Go.Av
namespace Go.Av
open Go.Nt
theorem t75 (a b:Tk):G0 74 [.agg (tkR a),.agg (tkR b)] []=some (.bool (smT a b),[]):=by
 obtain⟨k,s,n⟩:=a;obtain⟨l,t,m⟩:=b;refine aB F74 rfl rfl rfl ?_;unfold smT;by_cases h:k=l
 ·subst h
  have e:(s == t)=decide (s=t):=by rw[Bool.eq_iff_iff];simp
  simp only[F74,tkR,go_sem,decide_true,Bool.true_and,e]
 ·simp only[F74,tkR,go_sem,h,decide_false,Bool.false_and]
theorem t80 (a b:Tk):G0 88 [.agg (tkR a),.agg (tkR b)] []=some (.bool (smT a b),[]):=by
 obtain⟨k,s,n⟩:=a;obtain⟨l,t,m⟩:=b;refine aB F88 rfl rfl rfl ?_;unfold smT;by_cases h:k=l
 ·subst h
  have e:(s == t)=decide (s=t):=by rw[Bool.eq_iff_iff];simp
  simp only[F88,tkR,go_sem,decide_true,Bool.true_and,e]
 ·simp only[F88,tkR,go_sem,h,decide_false,Bool.false_and]
theorem t74 (a:Tk):G0 73 [.agg (tkR a)] []=some (.bool (tgT a),[]):=by
 obtain⟨k,s,n⟩:=a;refine aB F73 rfl rfl rfl ?_;unfold tgT;by_cases h2:k=2
 ·subst h2;simp only[F73,tkR,go_sem];try rfl
 ·by_cases h3:k=3
  ·subst h3;simp only[F73,tkR,go_sem];try rfl
  ·by_cases h4:k=4
   ·subst h4;simp only[F73,tkR,go_sem];try rfl
   ·simp only[F73,tkR,go_sem,h2,h3,h4,decide_false,or_self]
theorem t68 (a:Tk):G0 79 [.agg (tkR a)] []=some (.bool (tgT a),[]):=by
 obtain⟨k,s,n⟩:=a;refine aB F79 rfl rfl rfl ?_;unfold tgT;by_cases h2:k=2
 ·subst h2;simp only[F79,tkR,go_sem];try rfl
 ·by_cases h3:k=3
  ·subst h3;simp only[F79,tkR,go_sem];try rfl
  ·by_cases h4:k=4
   ·subst h4;simp only[F79,tkR,go_sem];try rfl
   ·simp only[F79,tkR,go_sem,h2,h3,h4,decide_false,or_self]
theorem CX (k:Int):k=2\/k=3\/k=4\/k=5\/k=6\/k=7\/k=8\/k=9\/(¬ k=2/\¬ k=3/\¬ k=4/\¬ k=5/\¬ k=6/\¬ k=7/\¬ k=8/\¬ k=9):=by omega
theorem t73 (a:Tk):G0 72 [.agg (tkR a)] []=some (.int .i64 (wgT a),[]):=by
 obtain⟨k,s,n⟩:=a;refine aB F72 rfl rfl rfl ?_;unfold wgT;rcases CX k with h | h | h | h | h | h | h | h | ⟨h2,h3,h4,h5,h6,h7,h8,h9⟩
 ·subst h;simp only[F72,tkR,go_sem];try rfl
 ·subst h;simp only[F72,tkR,go_sem];try rfl
 ·subst h;simp only[F72,tkR,go_sem];try rfl
 ·subst h;simp only[F72,tkR,go_sem];try rfl
 ·subst h;simp only[F72,tkR,go_sem];try rfl
 ·subst h;simp only[F72,tkR,go_sem];try rfl
 ·subst h;simp only[F72,tkR,go_sem];try rfl
 ·subst h;simp only[F72,tkR,go_sem];try rfl
 ·simp only[F72,tkR,go_sem,h2,h3,h4,h5,h6,h7,h8,h9,or_self,if_false];try rfl
theorem t65 (a:Tk):G0 76 [.agg (tkR a)] []=some (.int .i64 (wgT a),[]):=by
 obtain⟨k,s,n⟩:=a;refine aB F76 rfl rfl rfl ?_;unfold wgT;rcases CX k with h | h | h | h | h | h | h | h | ⟨h2,h3,h4,h5,h6,h7,h8,h9⟩
 ·subst h;simp only[F76,tkR,go_sem];try rfl
 ·subst h;simp only[F76,tkR,go_sem];try rfl
 ·subst h;simp only[F76,tkR,go_sem];try rfl
 ·subst h;simp only[F76,tkR,go_sem];try rfl
 ·subst h;simp only[F76,tkR,go_sem];try rfl
 ·subst h;simp only[F76,tkR,go_sem];try rfl
 ·subst h;simp only[F76,tkR,go_sem];try rfl
 ·subst h;simp only[F76,tkR,go_sem];try rfl
 ·simp only[F76,tkR,go_sem,h2,h3,h4,h5,h6,h7,h8,h9,or_self,if_false];try rfl
theorem t57 (a:Tk):G0 54 [.agg (tkR a)] []=some (.int .i64 (aln a),[]):=by
 have g1:=t74 a;have g2:=t73 a;unfold tkR at g1 g2;refine aB F54 rfl rfl rfl ?_;unfold aln;by_cases h:tgT a=true
 ·rw[h] at g1
  rw[if_pos h];simp only[F54,tkR,go_sem,g1]
  try rfl
 ·have h':tgT a=false:=by simpa using h
  rw[h'] at g1;rw[if_neg h];simp only[F54,tkR,go_sem,g1,g2]
theorem t67 (a:Tk):G0 78 [.agg (tkR a)] []=some (.int .i64 (aln a),[]):=by
 have g1:=t68 a;have g2:=t65 a;unfold tkR at g1 g2;refine aB F78 rfl rfl rfl ?_;unfold aln;by_cases h:tgT a=true
 ·rw[h] at g1
  rw[if_pos h];simp only[F78,tkR,go_sem,g1]
  try rfl
 ·have h':tgT a=false:=by simpa using h
  rw[h'] at g1;rw[if_neg h];simp only[F78,tkR,go_sem,g1,g2]
end Go.Av
namespace Go.Av
open Go.Nt
def e7:Option Nat->AV
 | some n=>.tup [.int .i64 n,.bool true]
 | none=>.tup [.int .i64 0,.bool false]
theorem sR (k i:Int) (s:List UInt8):kyT (k,s,i)=kyF k s:=rfl
theorem t58 (a b:Tk) (ha:a.2.1.length<=1000000) (hb:b.2.1.length<=1000000):G0 55 [.agg (tkR a),.agg (tkR b)] []=some (e7 (cst a b),[]):=by
 have g1:=t75 a b;have g2:=t73 a;obtain⟨k,s,n⟩:=a;obtain⟨l,t,m⟩:=b;have g3:=QW k n s ha;have g4:=QW l m t hb;simp only[tkR] at g1 g2;refine aB F55 rfl rfl rfl ?_;unfold cst;by_cases hs:smT (k,s,n) (l,t,m)=true
 ·rw[if_pos hs]
  rw[hs] at g1;simp only[F55,tkR,go_sem,g1,e7]
  try rfl
 rw[if_neg hs];have hs':smT (k,s,n) (l,t,m)=false:=by simpa using hs
 rw[hs'] at g1;by_cases hk:k=l
 case neg =>
  rw[if_pos (.inl hk)];simp only[F55,tkR,go_sem,g1,hk,e7,not_false_eq_true,decide_true]
 subst hk;rcases CX k with h | h | h | h | h | h | h | h | ⟨h2,h3,h4,h5,h6,h7,h8,h9⟩
 ·subst h;rw[if_pos (by simp)];simp only[F55,tkR,go_sem,g1,g2,g3,g4,e7,not_true_eq_false,decide_false]
 ·subst h;rw[if_pos (by simp)];simp only[F55,tkR,go_sem,g1,g2,g3,g4,e7,not_true_eq_false,decide_false]
 ·subst h;rw[if_pos (by simp)];simp only[F55,tkR,go_sem,g1,g2,g3,g4,e7,not_true_eq_false,decide_false]
 ·subst h;rw[if_neg (by simp),if_neg (by simp)];simp only[F55,tkR,go_sem,g1,g2,g3,g4,e7,not_true_eq_false,decide_false]
 ·subst h
  rw[if_neg (by simp),sR,sR];by_cases hq:kyF 6 s=kyF 6 t
  ·rw[if_pos ⟨rfl,hq⟩]
   rw[hq] at g3;simp only[F55,tkR,go_sem,g1,g2,g3,g4,e7,not_true_eq_false,decide_false,decide_true,beq_self_eq_true]
   try rfl
  ·rw[if_neg (fun z=>hq z.2)]
   have hq':(kyF 6 s == kyF 6 t)=false:=by simpa using hq
   simp only[F55,tkR,go_sem,g1,g2,g3,g4,e7,hq,hq',not_true_eq_false,decide_false]
 ·subst h;rw[if_neg (by simp),if_neg (by simp)];simp only[F55,tkR,go_sem,g1,g2,g3,g4,e7,not_true_eq_false,decide_false]
 ·subst h;rw[if_neg (by simp),if_neg (by simp)];simp only[F55,tkR,go_sem,g1,g2,g3,g4,e7,not_true_eq_false,decide_false]
 ·subst h;rw[if_neg (by simp),if_neg (by simp)];simp only[F55,tkR,go_sem,g1,g2,g3,g4,e7,not_true_eq_false,decide_false]
 ·rw[if_pos (by show k≠k\/k < 5\/9 < k;omega)]
  simp only[F55,tkR,go_sem,g1,g2,g3,g4,e7,h2,h3,h4,h5,h6,h7,h8,h9,not_true_eq_false,decide_false]
end Go.Av
namespace Go.Av
open Go.Nt
theorem t66 (a b:Tk) (ha:a.2.1.length<=1000000) (hb:b.2.1.length<=1000000):G0 77 [.agg (tkR a),.agg (tkR b)] []=some (e7 (cst a b),[]):=by
 have g1:=t80 a b;have g2:=t65 a;obtain⟨k,s,n⟩:=a;obtain⟨l,t,m⟩:=b;have g3:=QX k n s ha;have g4:=QX l m t hb;simp only[tkR] at g1 g2;refine aB F77 rfl rfl rfl ?_;unfold cst;by_cases hs:smT (k,s,n) (l,t,m)=true
 ·rw[if_pos hs]
  rw[hs] at g1;simp only[F77,tkR,go_sem,g1,e7]
  try rfl
 rw[if_neg hs];have hs':smT (k,s,n) (l,t,m)=false:=by simpa using hs
 rw[hs'] at g1;by_cases hk:k=l
 case neg =>
  rw[if_pos (.inl hk)];simp only[F77,tkR,go_sem,g1,hk,e7,not_false_eq_true,decide_true]
 subst hk;by_cases h5:k < 5
 ·rw[if_pos (.inr (.inl h5))]
  simp only[F77,tkR,go_sem,g1,h5,e7,not_true_eq_false,decide_false,decide_true]
 by_cases h9:9 < k
 ·rw[if_pos (.inr (.inr h9))]
  simp only[F77,tkR,go_sem,g1,h5,h9,e7,not_true_eq_false,decide_false,decide_true]
 rw[if_neg (by show ¬ (k≠k\/k < 5\/9 < k);omega)];by_cases h6:k=6
 ·subst h6
  rw[sR,sR];by_cases hq:kyF 6 s=kyF 6 t
  ·rw[if_pos ⟨rfl,hq⟩]
   rw[hq] at g3;simp only[F77,tkR,go_sem,g1,g2,g3,g4,e7,not_true_eq_false,decide_false,decide_true,beq_self_eq_true]
   try rfl
  ·rw[if_neg (fun z=>hq z.2)]
   have hq':(kyF 6 s == kyF 6 t)=false:=by simpa using hq
   simp only[F77,tkR,go_sem,g1,g2,g3,g4,e7,hq,hq',not_true_eq_false,decide_false]
   try rfl
 ·rw[if_neg (fun z=>h6 z.1)]
  simp only[F77,tkR,go_sem,g1,g2,h5,h9,h6,e7,not_true_eq_false,decide_false]
  try rfl
theorem IE {l:List Tk} {i:Nat} {t:Tk} (h:l[i]?=some t):ttl (l.take (i+1))=ttl (l.take i)+wgT t:=by
 unfold ttl;rw[take_add_one,h];show (List.map wgT (l.take i++[t])).sum=_;rw[map_append,sum_append];rfl
theorem l56 (l:List Tk) (hl:l.length<=100000):∀ (d i:Nat),i+d=l.length ->
  aC G0 zB (ST [(3,.int .i64 (ttl (l.take i))),(6,.sl .no 3 (tks l)),(7,.int .i64 l.length),(8,.int .i64 i)] [] [])=some (.ex 0,ST [(3,.int .i64 (ttl l)),(6,.sl .no 3 (tks l)),(7,.int .i64 l.length),(8,.int .i64 l.length),(9,.bool false)] [] [])
 | 0,i,h=>by
  have:i=l.length:=by omega
  subst this;rw[aA (L:=zB) rfl,take_length];simp only[go_sem,Int.lt_irrefl]
 | d+1,i,h=>by
  have hi:i < l.length:=by omega
  have h0:(0:Int)<=(i:Int):=by omega
  have h1:(i:Int) < (l.length:Int):=by omega
  have hw:=wI (i:=i) (by omega)
  obtain⟨t,hg⟩:∃ t,l[i]?=some t:=⟨_,getElem?_eq_getElem hi⟩
  have hr:=bU hg;have g:=t73 t;have ih:=l56 l hl d (i+1) (by omega);have hb:=kA (l.take i);have hb2:=oN t;have hlt:(l.take i).length<=l.length:=by rw[length_take];omega
  have hs:IntKind.i64.wrap ((ttl (l.take i):Int)+(wgT t:Int))=((ttl (l.take (i+1)):Nat):Int):=by rw[IE hg,w64 (by omega) (by omega)];rfl
  rw[<- ih];obtain⟨k,s,n⟩:=t;simp only[tkR] at g hr
  conv=>lhs;rw[aA (L:=zB) rfl]
  simp only[go_sem,aE,h0,h1,hr,hw,g,hs]
theorem t56 (l:List Tk) (hl:l.length<=100000):G0 53 [.sl .no 3 (tks l)] []=some (.int .i64 (ttl l),[]):=by
 have x:=l56 l hl l.length 0 (by omega);have e0:((0:Nat):Int)=0:=rfl;have e1:((ttl (l.take 0):Nat):Int)=0:=rfl;rw[e0,e1] at x;refine aB F53 rfl rfl rfl ?_;simp only[F53,go_sem,aE,x]
theorem l41 (l:List Tk) (hl:l.length<=100000):∀ (d i:Nat),i+d=l.length ->
  aC G0 zA (ST [(3,.int .i64 (ttl (l.take i))),(6,.sl .no 3 (tks l)),(7,.int .i64 l.length),(8,.int .i64 i)] [] [])=some (.ex 0,ST [(3,.int .i64 (ttl l)),(6,.sl .no 3 (tks l)),(7,.int .i64 l.length),(8,.int .i64 l.length),(9,.bool false)] [] [])
 | 0,i,h=>by
  have:i=l.length:=by omega
  subst this;rw[aA (L:=zA) rfl,take_length];simp only[go_sem,Int.lt_irrefl]
 | d+1,i,h=>by
  have hi:i < l.length:=by omega
  have h0:(0:Int)<=(i:Int):=by omega
  have h1:(i:Int) < (l.length:Int):=by omega
  have hw:=wI (i:=i) (by omega)
  obtain⟨t,hg⟩:∃ t,l[i]?=some t:=⟨_,getElem?_eq_getElem hi⟩
  have hr:=bU hg;have g:=t65 t;have ih:=l41 l hl d (i+1) (by omega);have hb:=kA (l.take i);have hb2:=oN t;have hlt:(l.take i).length<=l.length:=by rw[length_take];omega
  have hs:IntKind.i64.wrap ((ttl (l.take i):Int)+(wgT t:Int))=((ttl (l.take (i+1)):Nat):Int):=by rw[IE hg,w64 (by omega) (by omega)];rfl
  rw[<- ih];obtain⟨k,s,n⟩:=t;simp only[tkR] at g hr
  conv=>lhs;rw[aA (L:=zA) rfl]
  simp only[go_sem,aE,h0,h1,hr,hw,g,hs]
theorem t41 (l:List Tk) (hl:l.length<=100000):G0 59 [.sl .no 3 (tks l)] []=some (.int .i64 (ttl l),[]):=by
 have x:=l41 l hl l.length 0 (by omega);have e0:((0:Nat):Int)=0:=rfl;have e1:((ttl (l.take 0):Nat):Int)=0:=rfl;rw[e0,e1] at x;refine aB F59 rfl rfl rfl ?_;simp only[F59,go_sem,aE,x]
theorem t37 (a b:List Tk) (ha:a.length<=100000) (hb:b.length<=100000):G0 36 [.sl .no 3 (tks a),.sl .no 3 (tks b)] []=some (.int .i64 ((max (ttl a) (ttl b):Nat):Int),[]):=by
 have g1:=t56 a ha;have g2:=t56 b hb;have e:((max (ttl a) (ttl b):Nat):Int)=max (ttl a:Int) (ttl b:Int):=by omega
 rw[e];refine aB F36 rfl rfl rfl ?_;simp only[F36,go_sem,g1,g2]
theorem t24 (a b:List Tk) (ha:a.length<=100000) (hb:b.length<=100000):G0 39 [.sl .no 3 (tks a),.sl .no 3 (tks b)] []=some (.int .i64 ((max (ttl a) (ttl b):Nat):Int),[]):=by
 have g1:=t41 a ha;have g2:=t41 b hb;have e:((max (ttl a) (ttl b):Nat):Int)=max (ttl a:Int) (ttl b:Int):=by omega
 rw[e];refine aB F39 rfl rfl rfl ?_;simp only[F39,go_sem,g1,g2]
end Go.Av
namespace Go.Av
open Go.Nt
theorem C5:∀ g:List Int,bV (icl g)=true
 | []=>rfl
 | [a]=>rfl
 | a :: b :: g=>rfl
theorem GZ {l:List Int} {i:Nat} {x:Int} (h:l[i]?=some x):(icl l)[i]?=some (.int .i64 x):=by
 unfold icl;rw[getElem?_map,h];rfl
theorem GY (l:List Int) (i:Nat) (x:Int):(icl l).set i (.int .i64 x)=icl (l.set i x):=by
 unfold icl;rw[map_set]
theorem qX {c:List AV} {i:Nat} (h:i < c.length) (x:AV):d6 i [x] c=some (c.set i x):=by
 unfold d6;rw[if_pos (by simp;omega)]
 congr 1
 rw[set_eq_take_append_cons_drop,if_pos h];simp
theorem xI {sh:LL} {q n i:Nat} {R:List Int} {x:Int} (hq:sh[q]?=some (icl R)) (hl:R.length=n) (h:R[i]?=some x) :
  ∃ Q,iaK 1 (.ss q 0 n 1) (.int .i64 (i:Int))=some Q/\(∀ m,ldA .sh false 1 m sh Q=some (.int .i64 x))/\∀ l m y,stX .sh 1 l m sh Q (some [.int .i64 y])=some (ST l m (sh.set q (icl (R.set i y)))):=by
 have hi:i < R.length:=by
  by_cases z:i < R.length
  ·exact z
  ·rw[getElem?_eq_none (by omega)] at h;cases h
 refine⟨.ptr q i,?_,fun m=>?_,fun l m y=>?_⟩
 ·rw[sW,if_pos (by omega),Int.toNat_natCast];simp
 ·rw[x9,hq]
  simp only[Option.bind_some,ldC,Bool.false_eq_true,if_false,GZ h];rfl
 ·rw[w9,hq]
  simp only[Option.bind_some];rw[if_pos (C5 _),qX (by rw[oA];exact hi),GY,Option.map_some]
theorem mL {n i:Nat} {R:List Int} {x:Int} (hl:R.length=n) (h:R[i]?=some x) :
  ∃ Q,iaK 1 (.ss 0 0 n 1) (.int .i64 (i:Int))=some Q/\(∀ m,ldA .sh false 1 m [icl R] Q=some (.int .i64 x))/\∀ l m y,stX .sh 1 l m [icl R] Q (some [.int .i64 y])=some (ST l m [icl (R.set i y)]):=xI rfl hl h
theorem kT (x:AV):∀ n:Nat,aV [x] n=List.replicate n x
 | 0=>rfl
 | n+1=>by
  rw[aV,kT x n,replicate_succ];rfl
theorem mU (a b:List Tk) (j:Nat) (ha:a.length<=100000) (hb:b.length<=100000):0<=fwd a b j/\fwd a b j<=800000:=by
 have h:=pJ _ a (b.take j) (Nat.le_refl _)
 have:(b.take j).length<=b.length:=by rw[length_take];omega
 unfold fwd;omega
theorem I3 {C:AV} (a b:List Tk) (hb:b.length<=100000) (hC:C=.ss 0 0 (b.length+1) 1):∀ (d j:Nat),j+d=b.length ->
  aC G0 zE (ST [(0,.sl .no 3 (tks a)),(1,.sl .no 3 (tks b)),(5,C),(20,.sl .no 3 (tks b)),(21,.int .i64 b.length),(22,.int .i64 j)] [] [icl (hU (fwd [] b) (fun _=>0) (j+1) b.length)])=some (.ex 0,ST [(0,.sl .no 3 (tks a)),(1,.sl .no 3 (tks b)),(5,C),(20,.sl .no 3 (tks b)),(21,.int .i64 b.length),(22,.int .i64 b.length),(23,.bool false)] [] [icl (hU (fwd [] b) (fun _=>0) (b.length+1) b.length)])
 | 0,j,h=>by
  have:j=b.length:=by omega
  subst this;have hCs:∀ k,aS k C=C:=fun _=>by rw[hC];rfl
  rw[aA (L:=zE) rfl];simp only[go_sem,hCs,Int.lt_irrefl]
 | d+1,j,h=>by
  have hi:j < b.length:=by omega
  have h0:(0:Int)<=(j:Int):=by omega
  have h1:(j:Int) < (b.length:Int):=by omega
  have hw:IntKind.i64.wrap ((j:Int)+1)=((j+1:Nat):Int):=by rw[w64 (by omega) (by omega)];rfl
  obtain⟨u,hg⟩:∃ u,b[j]?=some u:=⟨_,getElem?_eq_getElem hi⟩
  have hr:=bU hg;have g:=t57 u;have ih:=I3 a b hb hC d (j+1) (by omega);have hbd:=mU [] b j (by simp) hb;have hal:=iG u;have hs:IntKind.i64.wrap (fwd [] b j+(aln u:Int))=fwd [] b (j+1):=by rw[LH hg,w64 (by omega) (by omega)]
  have hCs:∀ k,aS k C=C:=fun _=>by rw[hC];rfl
  have hCd:aH C=C:=by rw[hC];rfl
  have e1:=eH (fwd [] b) (fun _=>0) (j+1) (m:=b.length) (i:=j) (by omega);rw[if_pos (by omega)] at e1;have e2:=eH (fwd [] b) (fun _=>0) (j+1) (m:=b.length) (i:=j+1) (by omega);obtain⟨Q1,b1,b2,b3⟩:=mL (dF _ _ _ _) e1;obtain⟨Q2,c1,c2,c3⟩:=mL (dF _ _ _ _) e2;rw[<- hC] at b1 c1;have c3:=fun l m=>c3 l m (fwd [] b (j+1))
  rw[lE _ _ (show j+1<=b.length by omega)] at c3;obtain⟨k,s,n⟩:=u;simp only[tkR] at g hr;rw[<- ih]
  conv=>lhs;rw[aA (L:=zE) rfl]
  simp only[go_sem,aE,h0,h1,hr,hw,g,hs,hCs,hCd,b1,b2,c1,c3]
theorem I2 {C:AV} (a b p:List Tk) (t:Tk) (i:Nat) (hp:p.length<=100000 - 1) (hb:b.length<=100000) (ht:t.2.1.length<=1000000) (hbt:∀ x∈b,x.2.1.length<=1000000) (hC:C=.ss 0 0 (b.length+1) 1):∀ (d j:Nat),j+d=b.length ->
  aC G0 zD (ST [(0,.sl .no 3 (tks a)),(1,.sl .no 3 (tks b)),(5,C),(9,.loc 9 0),(10,.int .i64 (fwd p b j)),(20,.sl .no 3 (tks b)),(21,.int .i64 b.length),(22,.int .i64 b.length),(23,.bool false),(39,.sl .no 3 (tks a)),(40,.int .i64 a.length),(41,.int .i64 i),(42,.bool true),(55,.sl .no 3 (tks b)),(56,.int .i64 b.length),(57,.int .i64 j)] [(9,some (tkR t))] [icl (hU (fwd (p++[t]) b) (fwd p b) (j+1) b.length)])
  =some (.ex 4,ST [(0,.sl .no 3 (tks a)),(1,.sl .no 3 (tks b)),(5,C),(9,.loc 9 0),(10,.int .i64 (fwd p b b.length)),(20,.sl .no 3 (tks b)),(21,.int .i64 b.length),(22,.int .i64 b.length),(23,.bool false),(39,.sl .no 3 (tks a)),(40,.int .i64 a.length),(41,.int .i64 i),(42,.bool true),(55,.sl .no 3 (tks b)),(56,.int .i64 b.length),(57,.int .i64 b.length),(58,.bool false)] [(9,some (tkR t))] [icl (hU (fwd (p++[t]) b) (fwd p b) (b.length+1) b.length)])
 | 0,j,h=>by
  have:j=b.length:=by omega
  subst this;have hCs:∀ k,aS k C=C:=fun _=>by rw[hC];rfl
  rw[aA (L:=zD) rfl];simp only[go_sem,hCs,Int.lt_irrefl]
 | d+1,j,h=>by
  have hi:j < b.length:=by omega
  have h0:(0:Int)<=(j:Int):=by omega
  have h1:(j:Int) < (b.length:Int):=by omega
  have hw:IntKind.i64.wrap ((j:Int)+1)=((j+1:Nat):Int):=by rw[w64 (by omega) (by omega)];rfl
  obtain⟨u,hg⟩:∃ u,b[j]?=some u:=⟨_,getElem?_eq_getElem hi⟩
  have hu:=hbt u (mem_of_getElem? hg);have hr:=bU hg;have g:=t57 u;have gt:=t57 t;have gc:=t58 t u ht hu;have ih:=I2 a b p t i hp hb ht hbt hC d (j+1) (by omega);have hA:=mU p b (j+1) (by omega) hb;have hB:=mU (p++[t]) b j (by simp;omega) hb;have hD:=mU p b j (by omega) hb;have hal:=iG u;have hat:=iG t;have hs1:IntKind.i64.wrap (fwd p b (j+1)+(aln t:Int))=fwd p b (j+1)+(aln t:Int):=w64 (by omega) (by omega);have hs2:IntKind.i64.wrap (fwd (p++[t]) b j+(aln u:Int))=fwd (p++[t]) b j+(aln u:Int):=w64 (by omega) (by omega);have hCs:∀ k,aS k C=C:=fun _=>by rw[hC];rfl
  have hCd:aH C=C:=by rw[hC];rfl
  have e1:=eH (fwd (p++[t]) b) (fwd p b) (j+1) (m:=b.length) (i:=j) (by omega);rw[if_pos (by omega)] at e1;have e2:=eH (fwd (p++[t]) b) (fwd p b) (j+1) (m:=b.length) (i:=j+1) (by omega);rw[if_neg (by omega)] at e2;obtain⟨Q1,b1,b2,b3⟩:=mL (dF _ _ _ _) e1;obtain⟨Q2,c1,c2,c3⟩:=mL (dF _ _ _ _) e2;rw[<- hC] at b1 c1;have c3:=fun l m=>c3 l m (fwd (p++[t]) b (j+1))
  rw[lE _ _ (show j+1<=b.length by omega)] at c3;have hss:=LF p (t:=t) hg;rw[<- ih]
  conv=>lhs;rw[aA (L:=zD) rfl]
  cases hcs:cst t u with
  | none =>
   rw[hcs] at hss gc;simp only at hss;obtain⟨k,s,n⟩:=u;obtain⟨k',s',n'⟩:=t;simp only[tkR,e7] at g gt gc hr ⊢;simp only[go_sem,aE,h0,h1,hr,hw,g,gt,gc,hs1,hs2,hCs,hCd,b1,b2,c1,c2,hss.symm,c3]
  | some v =>
   rw[hcs] at hss gc;simp only at hss;have hv:=DM hcs;have hs3:IntKind.i64.wrap (fwd p b j+(v:Int))=fwd p b j+(v:Int):=w64 (by omega) (by omega);obtain⟨k,s,n⟩:=u;obtain⟨k',s',n'⟩:=t;simp only[tkR,e7] at g gt gc hr ⊢;simp only[go_sem,aE,h0,h1,hr,hw,g,gt,gc,hs1,hs2,hs3,hCs,hCd,b1,b2,c1,c2,hss.symm,c3]
theorem I1 {C:AV} (a b:List Tk) (ha:a.length<=5000) (hb:b.length<=5000) (hat:∀ x∈a,x.2.1.length<=1000000) (hbt:∀ x∈b,x.2.1.length<=1000000) (hC:C=.ss 0 0 (b.length+1) 1):∀ (d i:Nat),i+d=a.length ->
  aC G0 zC (ST [(0,.sl .no 3 (tks a)),(1,.sl .no 3 (tks b)),(5,C),(20,.sl .no 3 (tks b)),(21,.int .i64 b.length),(22,.int .i64 b.length),(23,.bool false),(39,.sl .no 3 (tks a)),(40,.int .i64 a.length),(41,.int .i64 i)] [] [icl (hU (fwd (a.take i) b) (fun _=>0) (b.length+1) b.length)])
  =some (.ex 2,ST [(0,.sl .no 3 (tks a)),(1,.sl .no 3 (tks b)),(5,C),(20,.sl .no 3 (tks b)),(21,.int .i64 b.length),(22,.int .i64 b.length),(23,.bool false),(39,.sl .no 3 (tks a)),(40,.int .i64 a.length),(41,.int .i64 a.length),(42,.bool false)] [] [icl (hU (fwd a b) (fun _=>0) (b.length+1) b.length)])
 | 0,i,h=>by
  have:i=a.length:=by omega
  subst this;have hCs:∀ k,aS k C=C:=fun _=>by rw[hC];rfl
  rw[aA (L:=zC) rfl,take_length];simp only[go_sem,hCs,Int.lt_irrefl]
 | d+1,i,h=>by
  have hi:i < a.length:=by omega
  have h0:(0:Int)<=(i:Int):=by omega
  have h1:(i:Int) < (a.length:Int):=by omega
  have hw:=wI (i:=i) (by omega)
  obtain⟨t,hg⟩:∃ t,a[i]?=some t:=⟨_,getElem?_eq_getElem hi⟩
  have ht:=hat t (mem_of_getElem? hg);have hr:=bU hg;have gt:=t57 t;have ih:=I1 a b ha hb hat hbt hC d (i+1) (by omega);have htk:a.take (i+1)=a.take i++[t]:=by rw[take_add_one,hg];rfl
  have hpl:(a.take i).length<=5000:=by rw[length_take];omega
  rw[htk] at ih;generalize a.take i=p at ih hpl;have hD:=mU p b 0 (by omega) (by omega);have hal:=iG t;have hs:IntKind.i64.wrap (fwd p b 0+(aln t:Int))=fwd (p++[t]) b 0:=by rw[LG,w64 (by omega) (by omega)]
  have hCs:∀ k,aS k C=C:=fun _=>by rw[hC];rfl
  have hCd:aH C=C:=by rw[hC];rfl
  rw[mM (fwd p b) (fun _=>0) (fwd (p++[t]) b)];have e1:=eH (fwd (p++[t]) b) (fwd p b) 0 (m:=b.length) (i:=0) (by omega);rw[if_neg (by omega)] at e1;obtain⟨Q1,b1,b2,b3⟩:=mL (dF _ _ _ _) e1;have e0:((0:Nat):Int)=0:=rfl;rw[<- hC,e0] at b1;have b3:=fun l m=>b3 l m (fwd (p++[t]) b 0)
  rw[lE _ _ (show 0<=b.length by omega)] at b3;have hin:=I2 a b p t i (by omega) (by omega) ht hbt hC b.length 0 (by omega);rw[e0,mM (fwd (p++[t]) b) (fwd p b) (fun _=>0),<- mM (fwd (p++[t]) b) (fun _=>0) (fun _=>0)] at hin;rw[<- ih]
  conv=>lhs;rw[aA (L:=zC) rfl]
  obtain⟨k,s,n⟩:=t;simp only[tkR] at gt hr hin;have z1:(0:Nat)+1=1:=rfl;rw[z1] at hin b3;simp only[go_sem,aE,h0,h1,hr,hw,gt,hs,hCs,hCd,b1,b2,b3,hin]
theorem t59 (a b:List Tk) (ha:a.length<=5000) (hb:b.length<=5000) (hat:∀ x∈a,x.2.1.length<=1000000) (hbt:∀ x∈b,x.2.1.length<=1000000):G0 56 [.sl .no 3 (tks a),.sl .no 3 (tks b)] []=some (.int .i64 (2*(iM a b:Int)),[]):=zI (EL 56 ha hb hat hbt)
theorem t38 (a b:List Tk) (ha:a.length<=5000) (hb:b.length<=5000) (hat:∀ x∈a,x.2.1.length<=1000000) (hbt:∀ x∈b,x.2.1.length<=1000000) (hsu:iM a b<=1000000000):G0 37 [.sl .no 3 (tks a),.sl .no 3 (tks b)] []=some (.int .i64 (dst a b),[]):=by
 have x1:=I3 (C:=.ss 0 0 (b.length+1) 1) a b (by omega) rfl b.length 0 (by omega);have x2:=I1 (C:=.ss 0 0 (b.length+1) 1) a b ha hb hat hbt rfl a.length 0 (by omega);have e0:((0:Nat):Int)=0:=rfl;have z1:(0:Nat)+1=1:=rfl;rw[e0,take_zero] at x2;rw[e0,z1] at x1;have hw:IntKind.i64.wrap ((b.length:Int)+1)=((b.length+1:Nat):Int):=by rw[w64 (by omega) (by omega)];rfl
 have hz:hU (fwd [] b) (fun _=>0) 1 b.length=hU (fwd [] b) (fun _=>0) 0 b.length:=by
  rw[<- lE _ _ (show 0<=b.length by omega),LI];apply ext_getElem?;intro i;rw[getElem?_set,dF];by_cases q:0=i
  ·subst q
   rw[if_pos rfl,if_pos (by omega),eH _ _ _ (by omega)];rfl
  ·rw[if_neg q]
 have hz2:List.replicate (b.length+1) (AV.int .i64 0)=icl (hU (fwd [] b) (fun _=>0) 1 b.length):=by
  rw[hz,<- zX];unfold icl;rw[map_replicate]
 have e2:=eH (fwd a b) (fun _=>0) (b.length+1) (m:=b.length) (i:=b.length) (by omega);rw[if_pos (by omega)] at e2;obtain⟨Q2,c1,c2,c3⟩:=mL (dF _ _ _ _) e2;have hfd:fwd a b b.length=(lev cst aln a b:Int):=by unfold fwd;rw[take_length]
 have hbd:=mU a b b.length (by omega) (by omega);have hs:IntKind.i64.wrap (fwd a b b.length+2*(iM a b:Int))=((dst a b:Nat):Int):=by
  rw[w64 (by omega) (by omega),hfd];unfold dst;omega
 have g:=t59 a b ha hb hat hbt;refine aB F37 rfl rfl rfl ?_;simp only[F37,go_sem,aE,hw];rw[if_pos (by omega),kT,hz2];simp only[go_sem,aE,x1,x2,c1,c2,g,hs]
end Go.Av
namespace Go.Av
open Go.Nt
def iL (n m i:Nat):List AV:=(List.range (n+1)).map fun r=>if i<=r then AV.ss (1+(n - r)) 0 (m+1) 1 else .sl .full 1 []
theorem iS (n m i:Nat):(iL n m i).length=n+1:=by simp [iL]
theorem kY (m:Nat) {n r:Nat} (i:Nat) (h:r<=n):(iL n m i)[r]?=some (if i<=r then AV.ss (1+(n - r)) 0 (m+1) 1 else .sl .full 1 []):=by
 unfold iL;rw[getElem?_map,getElem?_range (by omega)];rfl
theorem A3 {n m i:Nat} (h:i<=n):(iL n m (i+1)).set i (.ss (1+(n - i)) 0 (m+1) 1)=iL n m i:=by
 apply ext_getElem?;intro r;rw[getElem?_set,iS];by_cases e:i=r
 ·subst e
  rw[if_pos rfl,if_pos (by omega),kY m i h,if_pos (by omega)]
 ·rw[if_neg e]
  by_cases q:r<=n
  ·rw[kY m _ q,kY m _ q]
   by_cases z:i<=r
   ·rw[if_pos z,if_pos (by omega)]
   ·rw[if_neg z,if_neg (by omega)]
  ·rw[getElem?_eq_none (by rw[iS];omega),getElem?_eq_none (by rw[iS];omega)]
theorem zL (n m:Nat):List.replicate (n+1) (AV.sl .full 1 [])=iL n m (n+1):=by
 apply ext_getElem?;intro r;by_cases q:r<=n
 ·rw[kY m _ q,getElem?_replicate,if_pos (by omega),if_neg (by omega)]
 ·rw[getElem?_eq_none (by rw[length_replicate];omega),getElem?_eq_none (by rw[iS];omega)]
theorem H0 {c:List AV} (h:∀ x∈c,(∃ o n,x=.ss o 0 n 1)\/x=.sl .full 1 []):bV c=true:=by
 cases c with
 | nil=>rfl
 | cons a c =>
  rcases h a (by simp) with ⟨o,n,rfl⟩ | rfl<;>(cases c<;>rfl)
theorem A4 (n m i:Nat):bV (iL n m i)=true:=H0 fun x hx=>by
 unfold iL at hx;obtain⟨r,_,rfl⟩:=mem_map.1 hx;by_cases q:i<=r
 ·rw[if_pos q];exact .inl ⟨_,_,rfl⟩
 ·rw[if_neg q];exact .inr rfl
def kD (a b:List Tk) (i:Nat):List (List AV):=(List.range (a.length+1 - i)).map fun q=>icl (iN (bwd a b (a.length - q)) 0 b.length)
theorem gN (a b:List Tk) (i:Nat):(kD a b i).length=a.length+1 - i:=by simp [kD]
theorem EH (a b:List Tk) {i q:Nat} (h:q < a.length+1 - i):(kD a b i)[q]?=some (icl (iN (bwd a b (a.length - q)) 0 b.length)):=by
 unfold kD;rw[getElem?_map,getElem?_range h];rfl
theorem JR (a b:List Tk) {i:Nat} (h:i<=a.length):kD a b i=kD a b (i+1)++[icl (iN (bwd a b i) 0 b.length)]:=by
 unfold kD;rw[show a.length+1 - i=(a.length+1 - (i+1))+1 by omega,range_succ,map_append]
 congr 1
 show [icl (iN (bwd a b (a.length - (a.length+1 - (i+1)))) 0 b.length)]=_;rw[show a.length - (a.length+1 - (i+1))=i by omega]
theorem A1 (a b:List Tk):kD a b (a.length+1)=[]:=by unfold kD;rw[Nat.sub_self];rfl
theorem qC (a b:List Tk) (i k:Nat) (ha:a.length<=100000) (hb:b.length<=100000):0<=bwd a b i k/\bwd a b i k<=800000:=by
 have h:=pJ _ (a.drop i) (b.drop k) (Nat.le_refl _);have h1:(a.drop i).length<=a.length:=by rw[length_drop];omega
 have h2:(b.drop k).length<=b.length:=by rw[length_drop];omega
 unfold bwd;omega
def tbS (a b:List Tk) (i k:Nat):List (List AV):=iL a.length b.length i :: (kD a b (i+1)++[icl (iN (bwd a b i) k b.length)])
theorem IF (a b:List Tk) {i:Nat} (h:i<=a.length):tbS a b i 0=iL a.length b.length i :: kD a b i:=by rw[JR a b h];rfl
theorem A6 (a b:List Tk) (i k:Nat) {q:Nat} (h1:i<=a.length) (hq:q=1+(a.length - i)):(tbS a b i k)[q]?=some (icl (iN (bwd a b i) k b.length)):=by
 subst hq;unfold tbS;rw[show 1+(a.length - i)=(a.length - i)+1 by omega,getElem?_cons_succ,getElem?_append_right (by rw[gN];omega),gN,show a.length - i - (a.length+1 - (i+1))=0 by omega];rfl
theorem EI (a b:List Tk) {i k:Nat} (h1:i<=a.length) (hk:k<=b.length):(tbS a b i (k+1)).set (1+(a.length - i)) (icl ((iN (bwd a b i) (k+1) b.length).set k (bwd a b i k)))=tbS a b i k:=by
 unfold tbS;rw[BZ _ hk,show 1+(a.length - i)=(a.length - i)+1 by omega,set_cons_succ,set_append_right _ _ (by rw[gN];omega),gN,show a.length - i - (a.length+1 - (i+1))=0 by omega];rfl
theorem JS (a b:List Tk) (i k:Nat) {q:Nat} (h1:i < a.length) (hq:q=1+(a.length - (i+1))):(tbS a b i k)[q]?=some (icl (iN (bwd a b (i+1)) 0 b.length)):=by
 subst hq;unfold tbS;rw[show 1+(a.length - (i+1))=(a.length - (i+1))+1 by omega,getElem?_cons_succ,getElem?_append_left (by rw[gN];omega),EH a b (by omega),show a.length - (a.length - (i+1))=i+1 by omega]
theorem vL (a b:List Tk) (i k:Nat) {r:Nat} (h:i<=r) (hr:r<=a.length):∃ P,iaK 1 (.ss 0 0 (a.length+1) 1) (.int .i64 (r:Int))=some P/\∀ m,ldA .sh false 1 m (tbS a b i k) P=some (.ss (1+(a.length - r)) 0 (b.length+1) 1):=by
 refine⟨.ptr 0 r,?_,fun m=>?_⟩
 ·rw[sW,if_pos (by omega),Int.toNat_natCast];simp
 ·rw[x9]
  show (some (iL a.length b.length i)).bind _=_;simp only[Option.bind_some,ldC,Bool.false_eq_true,if_false,kY b.length i hr,if_pos h];rfl
theorem I0 {C:AV} (a b:List Tk) (i:Nat) (hi:i<=a.length) (ha:a.length<=5000) (hb:b.length<=5000) (hat:∀ x∈a,x.2.1.length<=1000000) (hbt:∀ x∈b,x.2.1.length<=1000000) (hC:C=.ss 0 0 (a.length+1) 1):∀ (k:Nat),k<=b.length+1 ->
  aC G0 y9 (ST [(0,.sl .no 3 (tks a)),(1,.sl .no 3 (tks b)),(5,C),(6,.int .i64 i),(7,.int .i64 ((k:Int) - 1)),(21,.bool true)] [] (tbS a b i k))
  =some (.ex 2,ST [(0,.sl .no 3 (tks a)),(1,.sl .no 3 (tks b)),(5,C),(6,.int .i64 i),(7,.int .i64 (-1)),(21,.bool true),(34,.bool false)] [] (tbS a b i 0))
 | 0,h=>by
  have hCs:∀ k,aS k C=C:=fun _=>by rw[hC];rfl
  have e:((0:Nat):Int) - 1 = -1:=rfl;have e2:¬ (0:Int)<=-1:=by omega
  rw[aA (L:=y9) rfl,e];simp only[go_sem,hCs,e2]
 | k+1,h=>by
  have hkm:k<=b.length:=by omega
  have hk:((k+1:Nat):Int) - 1=(k:Int):=by omega
  have hg0:(0:Int)<=(k:Int):=by omega
  have hw1:IntKind.i64.wrap ((k:Int) - 1)=(k:Int) - 1:=w64 (by omega) (by omega);have hi0:(0:Int)<=(i:Int):=by omega
  have hwk:IntKind.i64.wrap ((k:Int)+1)=((k+1:Nat):Int):=by rw[w64 (by omega) (by omega)];rfl
  have hwi:IntKind.i64.wrap ((i:Int)+1)=((i+1:Nat):Int):=by rw[w64 (by omega) (by omega)];rfl
  have ih:=I0 a b i hi ha hb hat hbt hC k (by omega);have hCs:∀ k,aS k C=C:=fun _=>by rw[hC];rfl
  have hCd:aH C=C:=by rw[hC];rfl
  obtain⟨P0,p1,p2⟩:=vL a b i (k+1) (Nat.le_refl i) hi;rw[<- hC] at p1;generalize hW:AV.ss (1+(a.length - i)) 0 (b.length+1) 1=W at p2;have hWd:aH W=W:=by rw[<- hW];rfl
  have row:∀ x,x<=b.length->∃ Q,iaK 1 W (.int .i64 (x:Int))=some Q/\(∀ m,ldA .sh false 1 m (tbS a b i (k+1)) Q=some (.int .i64 (if k+1<=x then bwd a b i x else 0)))/\∀ l m y,stX .sh 1 l m (tbS a b i (k+1)) Q (some [.int .i64 y])=some (ST l m ((tbS a b i (k+1)).set (1+(a.length - i)) (icl ((iN (bwd a b i) (k+1) b.length).set x y)))):=by
   intro x hx;rw[<- hW];exact xI (A6 a b i (k+1) hi rfl) (fN _ _ _) (hZ _ _ hx)
  obtain⟨Q,b1,b2,b3⟩:=row k hkm;have b3:=fun l m=>b3 l m (bwd a b i k)
  rw[EI a b hi hkm] at b3;rw[hk,<- ih]
  conv=>lhs;rw[aA (L:=y9) rfl]
  by_cases hin:i < a.length
  ·have hin':(i:Int) < (a.length:Int):=by omega
   obtain⟨t,hgt⟩:∃ t,a[i]?=some t:=⟨_,getElem?_eq_getElem hin⟩
   have ht:=hat t (mem_of_getElem? hgt);have hrt:=bU hgt;have gt:=t67 t;have hal:=iG t;obtain⟨P1,p3,p4⟩:=vL a b i (k+1) (show i<=i+1 by omega) (show i+1<=a.length by omega);rw[<- hC] at p3;generalize hW1:AV.ss (1+(a.length - (i+1))) 0 (b.length+1) 1=W1 at p4;have hW1d:aH W1=W1:=by rw[<- hW1];rfl
   have row1:∀ x,x<=b.length->∃ Q,iaK 1 W1 (.int .i64 (x:Int))=some Q/\(∀ m,ldA .sh false 1 m (tbS a b i (k+1)) Q=some (.int .i64 (bwd a b (i+1) x))):=by
    intro x hx;rw[<- hW1];have e:=hZ (bwd a b (i+1)) 0 hx;rw[if_pos (by omega)] at e;obtain⟨Q,q1,q2,_⟩:=xI (JS a b i (k+1) hin rfl) (fN _ _ _) e;exact⟨Q,q1,q2⟩
   obtain⟨Q1,c1,c2⟩:=row1 k hkm;have hb1:=qC a b (i+1) k (by omega) (by omega);obtain⟨X1,hs1,hx1⟩:∃ X,IntKind.i64.wrap ((aln t:Int)+bwd a b (i+1) k)=X/\(aln t:Int)+bwd a b (i+1) k=X:=⟨_,w64 (by omega) (by omega),rfl⟩
   by_cases hkn:k < b.length
   ·have hkn':(k:Int) < (b.length:Int):=by omega
    obtain⟨u,hgu⟩:∃ u,b[k]?=some u:=⟨_,getElem?_eq_getElem hkn⟩
    have hu:=hbt u (mem_of_getElem? hgu);have hru:=bU hgu;have gu:=t67 u;have hau:=iG u;have gc:=t66 t u ht hu;obtain⟨Q2,d1,d2⟩:=row1 (k+1) (by omega);obtain⟨Q3,f1,f2,_⟩:=row (k+1) (by omega);rw[if_pos (Nat.le_refl _)] at f2;have hb2:=qC a b i (k+1) (by omega) (by omega);have hb3:=qC a b (i+1) (k+1) (by omega) (by omega);obtain⟨X2,hs2,hx2⟩:∃ X,IntKind.i64.wrap ((aln u:Int)+bwd a b i (k+1))=X/\(aln u:Int)+bwd a b i (k+1)=X:=⟨_,w64 (by omega) (by omega),rfl⟩
    have hss:=L5 hgt hgu;rw[hx1,hx2] at hss;cases hcs:cst t u with
    | none =>
     rw[hcs] at hss gc;simp only at hss;obtain⟨k1,s1,n1⟩:=u;obtain⟨k2,s2,n2⟩:=t;simp only[tkR,e7] at gu gt gc hru hrt ⊢;by_cases q:X2 < X1
     ·have hf:bwd a b i k=X2:=by rw[hss];omega
      rw[hf] at b3;simp only[go_sem,aE,hg0,hi0,hin',hkn',hrt,hru,gt,gu,gc,hwk,hwi,hw1,p1,p2,p3,p4,hCs,hCd,hWd,hW1d,c1,c2,d1,d2,f1,f2,hs1,hs2,q,b1,b3]
     ·have hf:bwd a b i k=X1:=by rw[hss];omega
      rw[hf] at b3;simp only[go_sem,aE,hg0,hi0,hin',hkn',hrt,hru,gt,gu,gc,hwk,hwi,hw1,p1,p2,p3,p4,hCs,hCd,hWd,hW1d,c1,c2,d1,d2,f1,f2,hs1,hs2,q,b1,b3]
    | some v =>
     rw[hcs] at hss gc;simp only at hss;have hv:=DM hcs;obtain⟨X3,hs3,hx3⟩:∃ X,IntKind.i64.wrap ((v:Int)+bwd a b (i+1) (k+1))=X/\(v:Int)+bwd a b (i+1) (k+1)=X:=⟨_,w64 (by omega) (by omega),rfl⟩
     rw[hx3] at hss;obtain⟨k1,s1,n1⟩:=u;obtain⟨k2,s2,n2⟩:=t;simp only[tkR,e7] at gu gt gc hru hrt ⊢;by_cases q:X1 < X3
     ·by_cases q2:X2 < X1
      ·have hf:bwd a b i k=X2:=by rw[hss];omega
       rw[hf] at b3;simp only[go_sem,aE,hg0,hi0,hin',hkn',hrt,hru,gt,gu,gc,hwk,hwi,hw1,p1,p2,p3,p4,hCs,hCd,hWd,hW1d,c1,c2,d1,d2,f1,f2,hs1,hs2,hs3,q,q2,b1,b3]
      ·have hf:bwd a b i k=X1:=by rw[hss];omega
       rw[hf] at b3;simp only[go_sem,aE,hg0,hi0,hin',hkn',hrt,hru,gt,gu,gc,hwk,hwi,hw1,p1,p2,p3,p4,hCs,hCd,hWd,hW1d,c1,c2,d1,d2,f1,f2,hs1,hs2,hs3,q,q2,b1,b3]
     ·by_cases q2:X2 < X3
      ·have hf:bwd a b i k=X2:=by rw[hss];omega
       rw[hf] at b3;simp only[go_sem,aE,hg0,hi0,hin',hkn',hrt,hru,gt,gu,gc,hwk,hwi,hw1,p1,p2,p3,p4,hCs,hCd,hWd,hW1d,c1,c2,d1,d2,f1,f2,hs1,hs2,hs3,q,q2,b1,b3]
      ·have hf:bwd a b i k=X3:=by rw[hss];omega
       rw[hf] at b3;simp only[go_sem,aE,hg0,hi0,hin',hkn',hrt,hru,gt,gu,gc,hwk,hwi,hw1,p1,p2,p3,p4,hCs,hCd,hWd,hW1d,c1,c2,d1,d2,f1,f2,hs1,hs2,hs3,q,q2,b1,b3]
   ·have hkn':¬ (k:Int) < (b.length:Int):=by omega
    have hkb:k=b.length:=by omega
    have hf:bwd a b i k=X1:=by rw[<- hx1,hkb,L6 hgt]
    rw[hf] at b3;obtain⟨k2,s2,n2⟩:=t;simp only[tkR] at gt hrt ⊢;simp only[go_sem,aE,hg0,hi0,hin',hkn',hrt,gt,hwk,hwi,hw1,p1,p2,p3,p4,hCs,hCd,hWd,hW1d,c1,c2,hs1,b1,b3]
  ·have hin':¬ (i:Int) < (a.length:Int):=by omega
   have hia:i=a.length:=by omega
   by_cases hkn:k < b.length
   ·have hkn':(k:Int) < (b.length:Int):=by omega
    obtain⟨u,hgu⟩:∃ u,b[k]?=some u:=⟨_,getElem?_eq_getElem hkn⟩
    have hru:=bU hgu;have gu:=t67 u;have hau:=iG u;obtain⟨Q3,f1,f2,_⟩:=row (k+1) (by omega);rw[if_pos (Nat.le_refl _)] at f2;have hb2:=qC a b i (k+1) (by omega) (by omega);obtain⟨X2,hs2,hx2⟩:∃ X,IntKind.i64.wrap ((aln u:Int)+bwd a b i (k+1))=X/\(aln u:Int)+bwd a b i (k+1)=X:=⟨_,w64 (by omega) (by omega),rfl⟩
    have hf:bwd a b i k=X2:=by rw[<- hx2,hia,L7 hgu]
    rw[hf] at b3;obtain⟨k1,s1,n1⟩:=u;simp only[tkR] at gu hru ⊢;simp only[go_sem,aE,hg0,hi0,hin',hkn',hru,gu,hwk,hwi,hw1,p1,p2,hCs,hCd,hWd,f1,f2,hs2,b1,b3]
   ·have hkn':¬ (k:Int) < (b.length:Int):=by omega
    have hkb:k=b.length:=by omega
    have hf:bwd a b i k=0:=by rw[hia,hkb,L8]
    rw[hf] at b3;simp only[go_sem,aE,hg0,hi0,hin',hkn',hwk,hwi,hw1,p1,p2,hCs,hCd,hWd,b1,b3]
end Go.Av
namespace Go.Av
open Go.Nt
theorem IZ {C:AV} (a b:List Tk) (ha:a.length<=5000) (hb:b.length<=5000) (hat:∀ x∈a,x.2.1.length<=1000000) (hbt:∀ x∈b,x.2.1.length<=1000000) (hC:C=.ss 0 0 (a.length+1) 1):∀ (i:Nat),i<=a.length+1 ->
  aC G0 y8 (ST [(0,.sl .no 3 (tks a)),(1,.sl .no 3 (tks b)),(5,C),(6,.int .i64 ((i:Int) - 1))] [] (iL a.length b.length i :: kD a b i))
  =some (.ex 0,ST [(0,.sl .no 3 (tks a)),(1,.sl .no 3 (tks b)),(5,C),(6,.int .i64 (-1)),(21,.bool false)] [] (iL a.length b.length 0 :: kD a b 0))
 | 0,h=>by
  have hCs:∀ k,aS k C=C:=fun _=>by rw[hC];rfl
  have e:((0:Nat):Int) - 1 = -1:=rfl;have e2:¬ (0:Int)<=-1:=by omega
  rw[aA (L:=y8) rfl,e];simp only[go_sem,hCs,e2]
 | i+1,h=>by
  have hia:i<=a.length:=by omega
  have hk:((i+1:Nat):Int) - 1=(i:Int):=by omega
  have hi0:(0:Int)<=(i:Int):=by omega
  have hw1:IntKind.i64.wrap ((i:Int) - 1)=(i:Int) - 1:=w64 (by omega) (by omega);have hwm:IntKind.i64.wrap ((b.length:Int)+1)=((b.length+1:Nat):Int):=by rw[w64 (by omega) (by omega)];rfl
  have ih:=IZ a b ha hb hat hbt hC i (by omega);have hCs:∀ k,aS k C=C:=fun _=>by rw[hC];rfl
  have hCd:aH C=C:=by rw[hC];rfl
  have hin:=I0 a b i hia ha hb hat hbt hC (b.length+1) (by omega);rw[show ((b.length+1:Nat):Int) - 1=(b.length:Int) by omega,IF a b hia] at hin;have hz:aV [AV.int .i64 0] (b.length+1)=icl (iN (bwd a b i) (b.length+1) b.length):=by
   rw[kT,<- zY];unfold icl;rw[map_replicate]
  obtain⟨S,hS⟩:∃ S,S=iL a.length b.length (i+1) :: kD a b (i+1):=⟨_,rfl⟩
  have hSl:S.length=1+(a.length - i):=by rw[hS,length_cons,gN];omega
  have c1:iaK 1 C (.int .i64 (i:Int))=some (.ptr 0 i):=by
   rw[hC,sW,if_pos (by omega),Int.toNat_natCast];simp
  have c3:∀ l m,stX .sh 1 l m (S++[icl (iN (bwd a b i) (b.length+1) b.length)]) (.ptr 0 i) (some [.ss (1+(a.length - i)) 0 (b.length+1) 1])=some (ST l m (tbS a b i (b.length+1))):=by
   intro l m;rw[w9,hS];show (some (iL a.length b.length (i+1))).bind _=_;simp only[Option.bind_some];rw[if_pos (A4 _ _ _),qX (by rw[iS];omega),A3 hia,Option.map_some];rfl
  generalize AV.ptr 0 i=P at c1 c3;have hg:(0:Int)<=((b.length+1:Nat):Int)/\((b.length+1:Nat):Int)<=((b.length+1:Nat):Int)/\((b.length+1:Nat):Int)*8<=140737488355328/\((b.length+1:Nat):Int)<=4611686018427387904:=by omega
  obtain⟨g1,g2,g3,g4⟩:=hg;rw[hk,<- hS,<- ih]
  conv=>lhs;rw[aA (L:=y8) rfl]
  simp only[go_sem,aE,hi0,hw1,hwm,hCs,hCd,g1,g2,g3,g4,hz,hSl,c1,c3,hin]
theorem t42 (a b:List Tk) (ha:a.length<=5000) (hb:b.length<=5000) (hat:∀ x∈a,x.2.1.length<=1000000) (hbt:∀ x∈b,x.2.1.length<=1000000):G0 60 [.sl .no 3 (tks a),.sl .no 3 (tks b)] []=some (.ss 0 0 (a.length+1) 1,iL a.length b.length 0 :: kD a b 0):=by
 have x:=IZ (C:=.ss 0 0 (a.length+1) 1) a b ha hb hat hbt rfl (a.length+1) (Nat.le_refl _);rw[show ((a.length+1:Nat):Int) - 1=(a.length:Int) by omega,A1] at x;have hw:IntKind.i64.wrap ((a.length:Int)+1)=((a.length+1:Nat):Int):=by rw[w64 (by omega) (by omega)];rfl
 have hz:aV [AV.sl .full 1 []] (a.length+1)=iL a.length b.length (a.length+1):=by rw[kT,zL _ b.length]
 obtain⟨g1,g2,g3,g4⟩:(0:Int)<=((a.length+1:Nat):Int)/\((a.length+1:Nat):Int)<=((a.length+1:Nat):Int)/\((a.length+1:Nat):Int)*24<=140737488355328/\((a.length+1:Nat):Int)<=4611686018427387904:=by omega
 refine aB F60 rfl rfl rfl ?_;simp only[F60,go_sem,aE,hw,g1,g2,g3,g4,hz,x]
end Go.Av
