/- Tokens: bytes, words, numbers, runs of spaces. No conditions. Tokens: the reference's words and numbers. No conditions. Tokens: keys, cutting a text, phrases. No conditions. Equal lists of texts. No conditions. Occurrences of a phrase. No conditions. The fixed example of concordances, made memories; the law ConcordRefuses. No conditions. The reference's occurrences: the plain law. No conditions. -/
import Derived.Test.YtigalfbihapdnaaGreatDoorG6Sd
import Derived.Test.YtigalfbihapdnaaGreatDoorG6XD
import Derived.Test.YtigalfbihapdnaaGreatDoorG6XH
open List
set_option linter.unusedSimpArgs false
set_option linter.unusedVariables false
set_option linter.unusedSectionVars false
set_option maxRecDepth 100000
set_option maxHeartbeats 16000000
namespace Go.Av
open Go.Nt
theorem f163 (x:Int):G3 163 [.int .u8 x] []=some (.int .i64 (clsI x),[]):=up (c102 x) rfl
theorem f164 (x:Int):G3 164 [.int .u8 x] []=some (.int .i64 (clsI x),[]):=up (c101 x) rfl
theorem f16 (a b:Int) (hb:1<=b) (hb2:b<=1000000):G3 16 [.int .i64 a,.int .i64 b] []=some (.int .i64 (a % b),[]):=up (c18 a b hb hb2) rfl
theorem f54 (l:List Int) (n:Nat) (m:Int) (hn:n<=1000000) (h1:1<=m) (h2:m<=1000000):G3 54 [.ptr 0 0,.int .i64 m] [num l n]=some (.int .i64 (nxt l n m),[num l (n+1)]):=up (c41 l n m hn h1 h2) rfl
theorem f89 (l:List Int) (n:Nat) (m:Int) (hn:n<=900000) (h1:1<=m) (h2:m<=1000):G3 89 [.ptr 0 0,.int .i64 m] [num l n]=some (.str (lineF l n m).1,[num l (lineF l n m).2]):=up (c63 l n m hn h1 h2) rfl
def wdI (x:Int):Bool:=decide (clsI x=4) || decide (clsI x=3)
def dgI (x:Int):Bool:=decide (clsI x=3)
theorem dc77 (x:Int):G3 166 [.int .u8 x] []=some (.bool (wdI x),[]):=by
 refine contract F166 rfl rfl rfl ?_;by_cases h1:clsI x=4
 ·simp only[F166,go_sem,f164,h1,wdI,Bool.true_or,Bool.or_true]
 ·simp only[F166,go_sem,f164,h1,wdI,Bool.false_or]
theorem dc78 (x:Int):G3 167 [.int .u8 x] []=some (.bool (dgI x),[]):=by
 refine contract F167 rfl rfl rfl ?_;simp only[F167,go_sem,f164,dgI]
def cnt (k:Int):Bool:=decide (k=6) || decide (k=7)
theorem dc44 (k i:Int) (s:List UInt8):G3 94 [.agg [.int .i64 k,.str s,.int .i64 i]] []=some (.bool (cnt k),[]):=by
 refine contract F94 rfl rfl rfl ?_;by_cases h1:k=6
 ·simp only[F94,go_sem,h1,cnt,Bool.true_or]
 ·simp only[F94,go_sem,h1,cnt,Bool.false_or]
theorem dc47 (k i:Int) (s:List UInt8):G3 135 [.agg [.int .i64 k,.str s,.int .i64 i]] []=some (.bool (cnt k),[]):=by
 refine contract F135 rfl rfl rfl ?_;by_cases h1:k=6
 ·simp only[F135,go_sem,h1,cnt,Bool.true_or]
 ·simp only[F135,go_sem,h1,cnt,Bool.false_or]
def bt (s:List UInt8) (n:Nat):Int:=((s.getD n 0).toNat:Int)
theorem at_bt {s:List UInt8} {n:Nat} (h:n < s.length):s[n]?=some (s.getD n 0):=by
 simp [getD_eq_getElem?_getD,h]
def jn (inn:Int->Bool) (a b:Int) (s:List UInt8):Nat->Nat->Nat
 | 0,n=>n
 | k+1,n=>if n < s.length then (if inn (bt s n)=true then jn inn a b s k (n+1) else if (bt s n=a\/bt s n=b)/\n+1 < s.length/\inn (bt s (n+1))=true then jn inn a b s k (n+2) else n) else n
theorem btd (s:List UInt8) (n:Nat):(((s.getD n 0).toNat:Nat):Int)=bt s n:=rfl
theorem dl76 (g:Nat) (inn:Int->Bool) (hg:∀ x,G3 g [.int .u8 x] []=some (.bool (inn x),[])) (a b:UInt8) (s:List UInt8) (hs:s.length<=1000000):∀ (k n:Nat),s.length<=n+k->n<=s.length ->
  (s.length<=jn inn a.toNat b.toNat s k n->execX G3 L165_0 (ST [(0,.str s),(1,.str [a,b]),(2,.fn g []),(7,.int .i64 n)] [] [])=some (.ex 0,ST [(0,.str s),(1,.str [a,b]),(2,.fn g []),(7,.int .i64 (jn inn a.toNat b.toNat s k n)),(11,.bool false)] [] [])) /\
  (jn inn a.toNat b.toNat s k n < s.length->execX G3 L165_0 (ST [(0,.str s),(1,.str [a,b]),(2,.fn g []),(7,.int .i64 n)] [] [])=some (.ret,ST [(0,.str s),(1,.str [a,b]),(2,.fn g []),(6,.int .i64 (jn inn a.toNat b.toNat s k n)),(11,.bool true),(13,.bool false),(21,.bool false)] [] []))
 | 0,n,h1,h2=>by
  have h3:¬ (n:Int) < (s.length:Int):=by omega
  refine⟨fun _=>?_,fun h=>absurd h (by simp only[jn];omega)⟩;rw[Y_loop (L:=L165_0) rfl];simp only[go_sem,h3,jn]
 | k+1,n,h1,h2=>by
  by_cases h3:n < s.length
  ·have h4:(n:Int) < (s.length:Int):=by omega
   have h5:=at_bt h3;have h0:(0:Int)<=(n:Int):=by omega
   by_cases h6:inn (bt s n)=true
   ·have ih:=dl76 g inn hg a b s hs k (n+1) (by omega) (by omega)
    have e:jn inn a.toNat b.toNat s (k+1) n=jn inn a.toNat b.toNat s k (n+1):=by simp only[jn,h3,h6,if_true]
    have hw:IntKind.i64.wrap ((n:Int)+1)=((n+1:Nat):Int):=by rw[w64 (by omega) (by omega)];rfl
    rw[e]
    constructor<;>intro h7
    ·rw[Y_loop (L:=L165_0) rfl]
     simp only[go_sem,h4,h5,h0,btd,hg,h6,hw];rw[ih.1 h7]
    ·rw[Y_loop (L:=L165_0) rfl]
     simp only[go_sem,h4,h5,h0,btd,hg,h6,hw];rw[ih.2 h7]
   ·have h6':inn (bt s n)=false:=by simpa using h6
    have hw:IntKind.i64.wrap ((n:Int)+1)=((n+1:Nat):Int):=by rw[w64 (by omega) (by omega)];rfl
    have hw2:IntKind.i64.wrap ((n:Int)+2)=((n+2:Nat):Int):=by rw[w64 (by omega) (by omega)];rfl
    have h9:(0:Int)<=((n+1:Nat):Int):=by omega
    have ab0:∀ x y:UInt8,([x,y]:List UInt8)[(0:Nat)]?=some x:=fun _ _=>rfl
    have ab1:∀ x y:UInt8,([x,y]:List UInt8)[(1:Nat)]?=some y:=fun _ _=>rfl
    by_cases h8:n+1 < s.length
    ·have h8':((n+1:Nat):Int) < (s.length:Int):=by omega
     have h10:=at_bt h8;have ih:=dl76 g inn hg a b s hs k (n+2) (by omega) (by omega);have e:jn inn a.toNat b.toNat s (k+1) n=if (bt s n=a.toNat\/bt s n=b.toNat)/\inn (bt s (n+1))=true then jn inn a.toNat b.toNat s k (n+2) else n:=by
      simp only[jn,h3,h6',h8,if_true,Bool.false_eq_true,if_false,true_and]
     rw[e];by_cases h11:inn (bt s (n+1))=true<;>by_cases h12:bt s n=(a.toNat:Int)<;>by_cases h13:bt s n=(b.toNat:Int)
     all_goals try replace h11:inn (bt s (n+1))=false:=eq_false_of_ne_true h11
     all_goals first | replace h12:=eq_false h12 | replace h12:=eq_true h12
     all_goals first | replace h13:=eq_false h13 | replace h13:=eq_true h13
     all_goals try simp only[h11,h12,h13,or_true,true_or,or_self,and_self,and_true,and_false,if_true,if_false,Bool.false_eq_true,eq_self]
     all_goals
      constructor<;>intro h7
      all_goals try exact absurd h7 (by omega)
      all_goals
       rw[Y_loop (L:=L165_0) rfl];simp only[go_sem,h4,h5,h0,btd,hg,h6',hw,hw2,ab0,ab1,h12,h13,h8',h9,h10,h11,Int.reduceLE,Int.le_refl]
       try first | rw[ih.1 h7] | rw[ih.2 h7]
    ·have h8':¬ ((n+1:Nat):Int) < (s.length:Int):=by omega
     have e:jn inn a.toNat b.toNat s (k+1) n=n:=by
      simp only[jn,h3,h6',h8,if_true,Bool.false_eq_true,if_false,false_and,and_false]
     rw[e];by_cases h12:bt s n=(a.toNat:Int)<;>by_cases h13:bt s n=(b.toNat:Int)
     all_goals first | replace h12:=eq_false h12 | replace h12:=eq_true h12
     all_goals first | replace h13:=eq_false h13 | replace h13:=eq_true h13
     all_goals
      refine⟨fun h=>absurd h (by omega),fun _=>?_⟩;rw[Y_loop (L:=L165_0) rfl];simp only[go_sem,h4,h5,h0,btd,hg,h6',hw,hw2,ab0,ab1,h12,h13,h8',Int.reduceLE,Int.le_refl]
  ·have h4:¬ (n:Int) < (s.length:Int):=by omega
   have e:jn inn a.toNat b.toNat s (k+1) n=n:=by simp only[jn,h3,if_false]
   rw[e];refine⟨fun _=>?_,fun h=>absurd h h3⟩;rw[Y_loop (L:=L165_0) rfl];simp only[go_sem,h4]
theorem jn_le (inn:Int->Bool) (a b:Int) (s:List UInt8):∀ k n:Nat,n<=s.length->n<=jn inn a b s k n/\jn inn a b s k n<=s.length
 | 0,n,h=>⟨Nat.le_refl _,h⟩
 | k+1,n,h=>by
  simp only[jn];split
  ·split
   ·have:=jn_le inn a b s k (n+1) (by omega);omega
   ·split
    ·have:=jn_le inn a b s k (n+2) (by omega);omega
    ·omega
  ·omega
theorem dc76 (g:Nat) (inn:Int->Bool) (hg:∀ x,G3 g [.int .u8 x] []=some (.bool (inn x),[])) (a b:UInt8) (s:List UInt8) (hs:s.length<=1000000) (h1:1<=s.length) :
  G3 165 [.str s,.str [a,b],.fn g []] []=some (.int .i64 (jn inn a.toNat b.toNat s s.length 1),[]):=by
 refine contract F165 rfl rfl rfl ?_;have hx:=dl76 g inn hg a b s hs s.length 1 (by omega) h1;by_cases h2:s.length<=jn inn a.toNat b.toNat s s.length 1
 ·have h3:=hx.1 h2
  simp only[go_sem] at h3;simp only[F165,go_sem,h3]
 ·have h3:=hx.2 (by omega)
  simp only[go_sem] at h3;simp only[F165,go_sem,h3]
def bl (s:List UInt8):Nat->Nat->Nat
 | 0,n=>n
 | k+1,n=>if n < s.length/\clsI (bt s n)=2 then bl s k (n+1) else n
theorem bl_le (s:List UInt8):∀ k n:Nat,n<=s.length->n<=bl s k n/\bl s k n<=s.length
 | 0,n,h=>⟨Nat.le_refl _,h⟩
 | k+1,n,h=>by
  simp only[bl];split
  ·have:=bl_le s k (n+1) (by omega);omega
  ·omega
theorem dl65 (s:List UInt8) (hs:s.length<=1000000):∀ k n:Nat,s.length<=n+k->n<=s.length ->
  execX G3 L139_0 (ST [(0,.str s),(3,.int .i64 n)] [] [])=some (.ex 0,ST [(0,.str s),(3,.int .i64 (bl s k n)),(14,.bool false)] [] [])
 | 0,n,h1,h2=>by
  have h3:¬ (n:Int) < (s.length:Int):=by omega
  rw[Y_loop (L:=L139_0) rfl];simp only[go_sem,h3,bl]
 | k+1,n,h1,h2=>by
  by_cases h3:n < s.length
  ·have h4:(n:Int) < (s.length:Int):=by omega
   have h0:(0:Int)<=(n:Int):=by omega
   have h5:=at_bt h3;have hw:IntKind.i64.wrap ((n:Int)+1)=((n+1:Nat):Int):=by rw[w64 (by omega) (by omega)];rfl
   by_cases h6:clsI (bt s n)=2
   ·have ih:=dl65 s hs k (n+1) (by omega) (by omega)
    rw[Y_loop (L:=L139_0) rfl];simp only[go_sem,h4,h5,h0,btd,f163,h6,hw,ih,bl,h3]
   ·rw[Y_loop (L:=L139_0) rfl]
    simp only[go_sem,h4,h5,h0,btd,f163,h6,hw,bl,h3]
  ·have h4:¬ (n:Int) < (s.length:Int):=by omega
   rw[Y_loop (L:=L139_0) rfl];simp only[go_sem,h4,bl,h3]
theorem dc65 (s:List UInt8) (hs:s.length<=1000000):G3 139 [.str s] []=some (.int .i64 (bl s s.length 0),[]):=by
 refine contract F139 rfl rfl rfl ?_;have hx:=dl65 s hs s.length 0 (by omega) (by omega);simp only[go_sem] at hx;simp only[F139,go_sem,hx]
theorem dl61 (s:List UInt8) (hs:s.length<=1000000):∀ k n:Nat,s.length<=n+k->n<=s.length ->
  execX G3 L140_0 (ST [(0,.str s),(4,.int .i64 n),(8,.bool false),(12,.bool false),(16,.bool true)] [] [])=some (.ex 1,ST [(0,.str s),(4,.int .i64 (bl s k n)),(8,.bool false),(12,.bool false),(16,.bool true),(28,.bool false)] [] [])
 | 0,n,h1,h2=>by
  have h3:¬ (n:Int) < (s.length:Int):=by omega
  rw[Y_loop (L:=L140_0) rfl];simp only[go_sem,h3,bl]
 | k+1,n,h1,h2=>by
  by_cases h3:n < s.length
  ·have h4:(n:Int) < (s.length:Int):=by omega
   have h0:(0:Int)<=(n:Int):=by omega
   have h5:=at_bt h3;have hw:IntKind.i64.wrap ((n:Int)+1)=((n+1:Nat):Int):=by rw[w64 (by omega) (by omega)];rfl
   by_cases h6:clsI (bt s n)=2
   ·have ih:=dl61 s hs k (n+1) (by omega) (by omega)
    rw[Y_loop (L:=L140_0) rfl];simp only[go_sem,h4,h5,h0,btd,f164,h6,hw,ih,bl,h3]
   ·rw[Y_loop (L:=L140_0) rfl]
    simp only[go_sem,h4,h5,h0,btd,f164,h6,hw,bl,h3]
  ·have h4:¬ (n:Int) < (s.length:Int):=by omega
   rw[Y_loop (L:=L140_0) rfl];simp only[go_sem,h4,bl,h3]
def nxK (s:List UInt8):Int:=if clsI (bt s 0)=4 then 6 else if clsI (bt s 0)=3 then 7 else if clsI (bt s 0)=2 then 8 else 9
def nxN (s:List UInt8):Nat:=if clsI (bt s 0)=4 then jn wdI 39 45 s s.length 1 else if clsI (bt s 0)=3 then jn dgI 46 44 s s.length 1 else if clsI (bt s 0)=2 then bl s s.length 1 else 1
theorem nx_le (s:List UInt8) (h:1<=s.length):1<=nxN s/\nxN s<=s.length:=by
 unfold nxN;split
 ·have:=jn_le wdI 39 45 s s.length 1 h;omega
 ·split
  ·have:=jn_le dgI 46 44 s s.length 1 h;omega
  ·split
   ·have:=bl_le s s.length 1 h;omega
   ·omega
theorem dc61 (s:List UInt8) (hs:s.length<=1000000) (h1:1<=s.length):G3 140 [.str s] []=some (.tup [.int .i64 (nxK s),.int .i64 (nxN s)],[]):=by
 refine contract F140 rfl rfl rfl ?_;have h5:=at_bt (s:=s) (n:=0) (by omega);by_cases a1:clsI (bt s 0)=4
 ·have hx:=dc76 166 wdI dc77 39 45 s hs h1
  simp only[F140,go_sem,Int.le_refl,h5,btd,f164,a1,hx,nxK,nxN];rfl
 by_cases a2:clsI (bt s 0)=3
 ·have hx:=dc76 167 dgI dc78 46 44 s hs h1
  simp only[F140,go_sem,Int.le_refl,h5,btd,f164,a1,a2,hx,nxK,nxN];rfl
 by_cases a3:clsI (bt s 0)=2
 ·have hx:=dl61 s hs s.length 1 (by omega) h1
  simp only[go_sem] at hx;simp only[F140,go_sem,Int.le_refl,h5,btd,f164,a1,a2,a3,hx,nxK,nxN]
 ·simp only[F140,go_sem,Int.le_refl,h5,btd,f164,a1,a2,a3,nxK,nxN]
end Go.Av
namespace Go.Av
open Go.Nt
theorem dl63 (s:List UInt8) (hs:s.length<=1000000):∀ (k n:Nat),s.length<=n+k->n<=s.length ->
  ∃ l',execX G3 L137_0 (ST [(0,.str s),(3,.int .i64 n),(13,.bool false)] [] [])=some (.ex 0,ST l' [] [])/\look .any l' 3=.int .i64 (jn wdI 39 45 s k n)
 | 0,n,h1,h2=>by
  have h3:¬ (n:Int) < (s.length:Int):=by omega
  refine Exists.intro ?_ (And.intro ?_ ?_)
  rotate_left 1
  ·rw[Y_loop (L:=L137_0) rfl]
   simp only[go_sem,h3,jn];rfl
  ·rfl
 | k+1,n,h1,h2=>by
  by_cases h3:n < s.length
  ·have h4:(n:Int) < (s.length:Int):=by omega
   have h5:=at_bt h3;have h0:(0:Int)<=(n:Int):=by omega
   have hw:IntKind.i64.wrap ((n:Int)+1)=((n+1:Nat):Int):=by rw[w64 (by omega) (by omega)];rfl
   have hw2:IntKind.i64.wrap ((n:Int)+2)=((n+2:Nat):Int):=by rw[w64 (by omega) (by omega)];rfl
   by_cases h6:wdI (bt s n)=true
   ·obtain⟨l',ih,ih2⟩:=dl63 s hs k (n+1) (by omega) (by omega)
    have e:jn wdI 39 45 s (k+1) n=jn wdI 39 45 s k (n+1):=by simp only[jn,h3,h6,if_true]
    rw[e];refine⟨l',?_,ih2⟩;rw[Y_loop (L:=L137_0) rfl];by_cases dc4:clsI (bt s n)=4
    ·simp only[go_sem,h4,h5,h0,btd,f163,dc4,hw]
     exact ih
    ·have dc3:clsI (bt s n)=3:=by simpa [wdI,dc4] using h6
     simp only[go_sem,h4,h5,h0,btd,f163,dc4,dc3,hw];exact ih
   ·have dc4:¬ clsI (bt s n)=4:=by intro h;simp [wdI,h] at h6
    have dc3:¬ clsI (bt s n)=3:=by intro h;simp [wdI,h] at h6
    have h6':wdI (bt s n)=false:=by simpa using h6
    have h9:(0:Int)<=((n+1:Nat):Int):=by omega
    by_cases h12:bt s n=39\/bt s n=45
    ·by_cases h8:n+1 < s.length
     ·have h8':((n+1:Nat):Int) < (s.length:Int):=by omega
      have h10:=at_bt h8;by_cases h11:wdI (bt s (n+1))=true
      ·obtain⟨l',ih,ih2⟩:=dl63 s hs k (n+2) (by omega) (by omega)
       have e:jn wdI 39 45 s (k+1) n=jn wdI 39 45 s k (n+2):=by
        simp only[jn];rw[if_pos h3,if_neg h6,if_pos ⟨h12,h8,h11⟩]
       rw[e];refine⟨l',?_,ih2⟩;rw[Y_loop (L:=L137_0) rfl];have d:(bt s n=39)=True\/((bt s n=39)=False/\(bt s n=45)=True):=by
        by_cases hq:bt s n=39
        ·exact .inl (eq_true hq)
        ·exact .inr ⟨eq_false hq,eq_true (h12.resolve_left hq)⟩
       by_cases d4:clsI (bt s (n+1))=4
       ·rcases d with d | ⟨d,d'⟩
        ·simp only[go_sem,h4,h5,h0,btd,f163,dc4,dc3,hw,hw2,d,h8',h9,h10,d4]
         exact ih
        ·simp only[go_sem,h4,h5,h0,btd,f163,dc4,dc3,hw,hw2,d,d',h8',h9,h10,d4]
         exact ih
       ·have d3:clsI (bt s (n+1))=3:=by simpa [wdI,d4] using h11
        rcases d with d | ⟨d,d'⟩
        ·simp only[go_sem,h4,h5,h0,btd,f163,dc4,dc3,hw,hw2,d,h8',h9,h10,d4,d3]
         exact ih
        ·simp only[go_sem,h4,h5,h0,btd,f163,dc4,dc3,hw,hw2,d,d',h8',h9,h10,d4,d3]
         exact ih
      ·have e:jn wdI 39 45 s (k+1) n=n:=by
        simp only[jn];rw[if_pos h3,if_neg h6,if_neg (fun h=>h11 h.2.2)]
       have d4:¬ clsI (bt s (n+1))=4:=by intro h;simp [wdI,h] at h11
       have d3:¬ clsI (bt s (n+1))=3:=by intro h;simp [wdI,h] at h11
       rw[e];have d:(bt s n=39)=True\/((bt s n=39)=False/\(bt s n=45)=True):=by
        by_cases hq:bt s n=39
        ·exact .inl (eq_true hq)
        ·exact .inr ⟨eq_false hq,eq_true (h12.resolve_left hq)⟩
       rcases d with d | ⟨d,d'⟩
       ·refine Exists.intro ?_ (And.intro ?_ ?_)
        rotate_left 1
        ·rw[Y_loop (L:=L137_0) rfl]
         simp only[go_sem,h4,h5,h0,btd,f163,dc4,dc3,hw,hw2,d,h8',h9,h10,d4,d3];rfl
        ·rfl
       ·refine Exists.intro ?_ (And.intro ?_ ?_)
        rotate_left 1
        ·rw[Y_loop (L:=L137_0) rfl]
         simp only[go_sem,h4,h5,h0,btd,f163,dc4,dc3,hw,hw2,d,d',h8',h9,h10,d4,d3];rfl
        ·rfl
     ·have h8':¬ ((n+1:Nat):Int) < (s.length:Int):=by omega
      have e:jn wdI 39 45 s (k+1) n=n:=by
       simp only[jn];rw[if_pos h3,if_neg h6,if_neg (fun h=>h8 h.2.1)]
      rw[e];have d:(bt s n=39)=True\/((bt s n=39)=False/\(bt s n=45)=True):=by
       by_cases hq:bt s n=39
       ·exact .inl (eq_true hq)
       ·exact .inr ⟨eq_false hq,eq_true (h12.resolve_left hq)⟩
      rcases d with d | ⟨d,d'⟩
      ·refine Exists.intro ?_ (And.intro ?_ ?_)
       rotate_left 1
       ·rw[Y_loop (L:=L137_0) rfl]
        simp only[go_sem,h4,h5,h0,btd,f163,dc4,dc3,hw,hw2,d,h8',h9];rfl
       ·rfl
      ·refine Exists.intro ?_ (And.intro ?_ ?_)
       rotate_left 1
       ·rw[Y_loop (L:=L137_0) rfl]
        simp only[go_sem,h4,h5,h0,btd,f163,dc4,dc3,hw,hw2,d,d',h8',h9];rfl
       ·rfl
    ·have e:jn wdI 39 45 s (k+1) n=n:=by
      simp only[jn];rw[if_pos h3,if_neg h6,if_neg (fun h=>h12 h.1)]
     rw[e];have d:(bt s n=39)=False:=eq_false (fun h=>h12 (.inl h));have d':(bt s n=45)=False:=eq_false (fun h=>h12 (.inr h));refine Exists.intro ?_ (And.intro ?_ ?_)
     rotate_left 1
     ·rw[Y_loop (L:=L137_0) rfl]
      simp only[go_sem,h4,h5,h0,btd,f163,dc4,dc3,hw,hw2,d,d',h9];rfl
     ·rfl
  ·have h4:¬ (n:Int) < (s.length:Int):=by omega
   have e:jn wdI 39 45 s (k+1) n=n:=by simp only[jn,h3,if_false]
   rw[e];refine Exists.intro ?_ (And.intro ?_ ?_)
   rotate_left 1
   ·rw[Y_loop (L:=L137_0) rfl]
    simp only[go_sem,h4];rfl
   ·rfl
theorem dl64 (s:List UInt8) (hs:s.length<=1000000):∀ (k n:Nat),s.length<=n+k->n<=s.length ->
  ∃ l',execX G3 L138_0 (ST [(0,.str s),(3,.int .i64 n),(11,.bool false)] [] [])=some (.ex 0,ST l' [] [])/\look .any l' 3=.int .i64 (jn dgI 46 44 s k n)
 | 0,n,h1,h2=>by
  have h3:¬ (n:Int) < (s.length:Int):=by omega
  refine Exists.intro ?_ (And.intro ?_ ?_)
  rotate_left 1
  ·rw[Y_loop (L:=L138_0) rfl]
   simp only[go_sem,h3,jn];rfl
  ·rfl
 | k+1,n,h1,h2=>by
  by_cases h3:n < s.length
  ·have h4:(n:Int) < (s.length:Int):=by omega
   have h5:=at_bt h3;have h0:(0:Int)<=(n:Int):=by omega
   have hw:IntKind.i64.wrap ((n:Int)+1)=((n+1:Nat):Int):=by rw[w64 (by omega) (by omega)];rfl
   have hw2:IntKind.i64.wrap ((n:Int)+2)=((n+2:Nat):Int):=by rw[w64 (by omega) (by omega)];rfl
   by_cases h6:dgI (bt s n)=true
   ·obtain⟨l',ih,ih2⟩:=dl64 s hs k (n+1) (by omega) (by omega)
    have e:jn dgI 46 44 s (k+1) n=jn dgI 46 44 s k (n+1):=by simp only[jn,h3,h6,if_true]
    rw[e];refine⟨l',?_,ih2⟩;rw[Y_loop (L:=L138_0) rfl];have dc3:clsI (bt s n)=3:=by simpa [dgI] using h6
    simp only[go_sem,h4,h5,h0,btd,f163,dc3,hw];exact ih
   ·have dc3:¬ clsI (bt s n)=3:=by intro h;simp [dgI,h] at h6
    have h9:(0:Int)<=((n+1:Nat):Int):=by omega
    by_cases h12:bt s n=46\/bt s n=44
    ·have d:(bt s n=46)=True\/((bt s n=46)=False/\(bt s n=44)=True):=by
      by_cases hq:bt s n=46
      ·exact .inl (eq_true hq)
      ·exact .inr ⟨eq_false hq,eq_true (h12.resolve_left hq)⟩
     by_cases h8:n+1 < s.length
     ·have h8':((n+1:Nat):Int) < (s.length:Int):=by omega
      have h10:=at_bt h8;by_cases h11:dgI (bt s (n+1))=true
      ·obtain⟨l',ih,ih2⟩:=dl64 s hs k (n+2) (by omega) (by omega)
       have e:jn dgI 46 44 s (k+1) n=jn dgI 46 44 s k (n+2):=by
        simp only[jn];rw[if_pos h3,if_neg h6,if_pos ⟨h12,h8,h11⟩]
       rw[e];refine⟨l',?_,ih2⟩;rw[Y_loop (L:=L138_0) rfl];have d3:clsI (bt s (n+1))=3:=by simpa [dgI] using h11
       rcases d with d | ⟨d,d'⟩
       ·simp only[go_sem,h4,h5,h0,btd,f163,dc3,hw,hw2,d,h8',h9,h10,d3]
        exact ih
       ·simp only[go_sem,h4,h5,h0,btd,f163,dc3,hw,hw2,d,d',h8',h9,h10,d3]
        exact ih
      ·have e:jn dgI 46 44 s (k+1) n=n:=by
        simp only[jn];rw[if_pos h3,if_neg h6,if_neg (fun h=>h11 h.2.2)]
       have d3:¬ clsI (bt s (n+1))=3:=by intro h;simp [dgI,h] at h11
       rw[e];rcases d with d | ⟨d,d'⟩
       ·refine Exists.intro ?_ (And.intro ?_ ?_)
        rotate_left 1
        ·rw[Y_loop (L:=L138_0) rfl]
         simp only[go_sem,h4,h5,h0,btd,f163,dc3,hw,hw2,d,h8',h9,h10,d3];rfl
        ·rfl
       ·refine Exists.intro ?_ (And.intro ?_ ?_)
        rotate_left 1
        ·rw[Y_loop (L:=L138_0) rfl]
         simp only[go_sem,h4,h5,h0,btd,f163,dc3,hw,hw2,d,d',h8',h9,h10,d3];rfl
        ·rfl
     ·have h8':¬ ((n+1:Nat):Int) < (s.length:Int):=by omega
      have e:jn dgI 46 44 s (k+1) n=n:=by
       simp only[jn];rw[if_pos h3,if_neg h6,if_neg (fun h=>h8 h.2.1)]
      rw[e];rcases d with d | ⟨d,d'⟩
      ·refine Exists.intro ?_ (And.intro ?_ ?_)
       rotate_left 1
       ·rw[Y_loop (L:=L138_0) rfl]
        simp only[go_sem,h4,h5,h0,btd,f163,dc3,hw,hw2,d,h8',h9];rfl
       ·rfl
      ·refine Exists.intro ?_ (And.intro ?_ ?_)
       rotate_left 1
       ·rw[Y_loop (L:=L138_0) rfl]
        simp only[go_sem,h4,h5,h0,btd,f163,dc3,hw,hw2,d,d',h8',h9];rfl
       ·rfl
    ·have e:jn dgI 46 44 s (k+1) n=n:=by
      simp only[jn];rw[if_pos h3,if_neg h6,if_neg (fun h=>h12 h.1)]
     rw[e];have d:(bt s n=46)=False:=eq_false (fun h=>h12 (.inl h));have d':(bt s n=44)=False:=eq_false (fun h=>h12 (.inr h));refine Exists.intro ?_ (And.intro ?_ ?_)
     rotate_left 1
     ·rw[Y_loop (L:=L138_0) rfl]
      simp only[go_sem,h4,h5,h0,btd,f163,dc3,hw,hw2,d,d',h9];rfl
     ·rfl
  ·have h4:¬ (n:Int) < (s.length:Int):=by omega
   have e:jn dgI 46 44 s (k+1) n=n:=by simp only[jn,h3,if_false]
   rw[e];refine Exists.intro ?_ (And.intro ?_ ?_)
   rotate_left 1
   ·rw[Y_loop (L:=L138_0) rfl]
    simp only[go_sem,h4];rfl
   ·rfl
theorem beq_nil {s:List UInt8} (h:1<=s.length):(s == [])=false:=by
 cases s with
 | nil=>simp at h
 | cons a l=>rfl
theorem dc63 (s:List UInt8) (hs:s.length<=1000000) (h1:1<=s.length) (a:clsI (bt s 0)=4):G3 137 [.str s] []=some (.int .i64 (nxN s),[]):=by
 refine contract F137 rfl rfl rfl ?_;have h5:=at_bt (s:=s) (n:=0) (by omega);obtain⟨l',hx,hx2⟩:=dl63 s hs s.length 1 (by omega) h1;simp only[go_sem] at hx;simp only[F137,go_sem,Int.le_refl,beq_nil h1,h5,btd,f163,a,hx,hx2,look_setl,look_kill,nxN]
theorem dc63n (s:List UInt8) (h1:1<=s.length) (a:¬ clsI (bt s 0)=4):G3 137 [.str s] []=some (.int .i64 0,[]):=by
 refine contract F137 rfl rfl rfl ?_;have h5:=at_bt (s:=s) (n:=0) (by omega);simp only[F137,go_sem,Int.le_refl,beq_nil h1,h5,btd,f163,a]
theorem dc64 (s:List UInt8) (hs:s.length<=1000000) (h1:1<=s.length) (a:clsI (bt s 0)=3):G3 138 [.str s] []=some (.int .i64 (nxN s),[]):=by
 refine contract F138 rfl rfl rfl ?_;have h5:=at_bt (s:=s) (n:=0) (by omega);obtain⟨l',hx,hx2⟩:=dl64 s hs s.length 1 (by omega) h1;simp only[go_sem] at hx;simp only[F138,go_sem,Int.le_refl,beq_nil h1,h5,btd,f163,a,hx,hx2,look_setl,look_kill,nxN]
theorem dc64n (s:List UInt8) (h1:1<=s.length) (a:¬ clsI (bt s 0)=3):G3 138 [.str s] []=some (.int .i64 0,[]):=by
 refine contract F138 rfl rfl rfl ?_;have h5:=at_bt (s:=s) (n:=0) (by omega);simp only[F138,go_sem,Int.le_refl,beq_nil h1,h5,btd,f163,a]
theorem bl_fuel (s:List UInt8):∀ k k' n:Nat,s.length<=n+k->s.length<=n+k'->bl s k n=bl s k' n
 | 0,0,_,_,_=>rfl
 | 0,k'+1,n,h,_=>by simp only[bl];rw[if_neg (by omega)]
 | k+1,0,n,_,h=>by simp only[bl];rw[if_neg (by omega)]
 | k+1,k'+1,n,h,h'=>by simp only[bl];rw[bl_fuel s k k' (n+1) (by omega) (by omega)]
theorem dc65y (s:List UInt8) (hs:s.length<=1000000) (h1:1<=s.length) (a:clsI (bt s 0)=2):G3 139 [.str s] []=some (.int .i64 (nxN s),[]):=by
 rw[dc65 s hs]
 have:bl s s.length 0=nxN s:=by
  obtain⟨k,hk⟩:∃ k,s.length=k+1:=⟨s.length - 1,by omega⟩
  simp only[nxN,a,Int.reduceEq,if_false,if_true];rw[show bl s s.length 0=bl s k 1 by rw[hk];simp only[bl];rw[if_pos ⟨by omega,a⟩]];exact bl_fuel s _ _ _ (by omega) (by omega)
 rw[this]
theorem dc65n (s:List UInt8) (hs:s.length<=1000000) (h1:1<=s.length) (a:¬ clsI (bt s 0)=2):G3 139 [.str s] []=some (.int .i64 0,[]):=by
 rw[dc65 s hs]
 have:bl s s.length 0=0:=by
  obtain⟨k,hk⟩:∃ k,s.length=k+1:=⟨s.length - 1,by omega⟩
  rw[hk];simp only[bl];rw[if_neg (fun h=>a h.2)]
 rw[this];rfl
end Go.Av
namespace Go.Av
open Go.Nt
def low8 (b:UInt8):UInt8:=if (65:Int)<=(b.toNat:Int)/\(b.toNat:Int)<=90 then b+32 else b
def lowF (s:List UInt8):List UInt8:=s.map low8
def lowP (s:List UInt8) (i:Nat):List UInt8:=lowF (s.take i)++s.drop i
theorem low_nat (b:UInt8) (h:(65:Int)<=(b.toNat:Int)/\(b.toNat:Int)<=90):((low8 b).toNat:Int)=(b.toNat:Int)+32:=by
 unfold low8;rw[if_pos h];have h2:b.toNat<=90:=by omega
 rw[UInt8.toNat_add];show (((b.toNat+32) % 256:Nat):Int)=_;omega
theorem lowP_len (s:List UInt8) (i:Nat):(lowP s i).length=s.length:=by
 simp [lowP,lowF];omega
theorem lowP_at (s:List UInt8) (i:Nat) (h:i < s.length):(lowP s i)[i]?=some (s.getD i 0):=by
 unfold lowP;rw[getElem?_append_right (by simp [lowF];omega)];simp [lowF,getD_eq_getElem?_getD,h,Nat.min_eq_left (Nat.le_of_lt h)]
theorem lowP_succ (s:List UInt8) (i:Nat) (h:i < s.length):lowP s (i+1)=(lowP s i).set i (low8 (s.getD i 0)):=by
 apply ext_getElem?;intro j;rw[getElem?_set];simp only[lowP_len];unfold lowP lowF;by_cases h1:i=j
 ·subst h1
  rw[if_pos rfl,if_pos h,getElem?_append_left (by simp;omega)];simp [getD_eq_getElem?_getD,h]
 ·rw[if_neg h1]
  by_cases h2:j < i
  ·rw[getElem?_append_left (by simp;omega),getElem?_append_left (by simp;omega)]
   simp [getElem?_take,h2,Nat.lt_succ_of_lt h2]
  ·rw[getElem?_append_right (by simp;omega),getElem?_append_right (by simp;omega)]
   simp only[length_map,length_take,getElem?_drop]
   congr 1;omega
theorem lowP_same (s:List UInt8) (i:Nat) (h:i < s.length) (hl:low8 (s.getD i 0)=s.getD i 0):lowP s (i+1)=lowP s i:=by
 rw[lowP_succ s i h,hl];apply ext_getElem?;intro j;rw[getElem?_set];split
 ·rename_i e;subst e
  rw[if_pos (by rw[lowP_len];exact h),lowP_at s i h]
 ·rfl
theorem lowP_end (s:List UInt8):lowP s s.length=lowF s:=by simp [lowP]
theorem lowP_zero (s:List UInt8):lowP s 0=s:=by simp [lowP,lowF]
theorem bcells_len (s:List UInt8):(bcells s).length=s.length:=by simp [bcells]
theorem bcells_at {s:List UInt8} {i:Nat} {b:UInt8} (h:s[i]?=some b):(bcells s)[i]?=some (.int .u8 b.toNat):=by simp [bcells,h]
theorem bcells_set (s:List UInt8) (i:Nat) (b:UInt8):(bcells s).set i (.int .u8 b.toNat)=bcells (s.set i b):=by simp [bcells,List.map_set]
theorem bcells_blk (s:List UInt8):blkB (bcells s)=true:=by
 cases s with
 | nil=>rfl
 | cons a l=>rfl
theorem putL_one:∀ (i:Nat) (cs:List AV) (x:AV),i < cs.length->putL i [x] cs=some (cs.set i x)
 | 0,[],_,h=>by simp at h
 | 0,c :: cs,x,_=>by simp only[putL_z,putL_nil,Option.map_some,set_cons_zero]
 | i+1,[],_,h=>by simp at h
 | i+1,c :: cs,x,h=>by simp only[putL_s,putL_one i cs x (by simpa using h),Option.map_some,set_cons_succ]
theorem IntKind.wrap_u8 (x:Int):IntKind.u8.wrap x=x % 256:=by
 rfl
theorem dl51 (s:List UInt8) (hs:s.length<=1000000):∀ (k i:Nat),i+k=s.length ->
  execX G3 L162_0 (ST [(3,.ss 0 0 s.length 1),(8,.int .i64 s.length),(9,.int .i64 i)] [] [bcells (lowP s i)]) =
  some (.ex 0,ST [(3,.ss 0 0 s.length 1),(8,.int .i64 s.length),(9,.int .i64 s.length),(10,.bool false)] [] [bcells (lowF s)])
 | 0,i,h=>by
  have:i=s.length:=by omega
  subst this;rw[Y_loop (L:=L162_0) rfl];simp only[go_sem,Int.lt_irrefl,lowP_end]
 | k+1,i,h=>by
  have h3:i < s.length:=by omega
  have h4:(i:Int) < (s.length:Int):=by omega
  have h0:(0:Int)<=(i:Int):=by omega
  have hw:IntKind.i64.wrap ((i:Int)+1)=((i+1:Nat):Int):=by rw[w64 (by omega) (by omega)];rfl
  have ih:=dl51 s hs k (i+1) (by omega);have ha:=bcells_at (lowP_at s i h3);by_cases hl:(65:Int)<=((s.getD i 0).toNat:Int)/\((s.getD i 0).toNat:Int)<=90
  ·have hn:=low_nat _ hl
   have hw8:IntKind.u8.wrap (((s.getD i 0).toNat:Int)+32)=((low8 (s.getD i 0)).toNat:Int):=by
    rw[hn,IntKind.wrap_u8];omega
   have hp:∀ x,putL i [x] (bcells (lowP s i))=some ((bcells (lowP s i)).set i x):=fun x=>putL_one _ _ x (by rw[bcells_len,lowP_len];exact h3)
   rw[Y_loop (L:=L162_0) rfl];simp only[go_sem,h4,h0,hw,Nat.mul_one,Nat.zero_add,ha,bcells_blk,hl.1,hl.2,hw8,hp,bcells_set,set_cons_zero,<- lowP_succ s i h3];exact ih
  ·have e:lowP s (i+1)=lowP s i:=lowP_same s i h3 (by unfold low8;rw[if_neg hl])
   rw[e] at ih;rw[Y_loop (L:=L162_0) rfl];by_cases h6:(65:Int)<=((s.getD i 0).toNat:Int)
   ·have h7:¬ ((s.getD i 0).toNat:Int)<=90:=fun h=>hl ⟨h6,h⟩
    simp only[go_sem,h4,h0,hw,Nat.mul_one,Nat.zero_add,ha,bcells_blk,h6,h7];exact ih
   ·simp only[go_sem,h4,h0,hw,Nat.mul_one,Nat.zero_add,ha,bcells_blk,h6]
    exact ih
theorem rowsC_b (s:List UInt8):rowsC 0 s.length 1 (bcells s)=some (bytesRows s):=by
 have h1:∀ s:List UInt8,(bcells s).all (fun x=>flatB (demV x))=true:=by
  intro s
  induction s with
  | nil=>rfl
  | cons a l ih=>simp [bcells,demV,flatB]
 have h2:∀ s:List UInt8,(bcells s).map demV=bcells s:=by
  intro s;simp [bcells,demV]
 have h3:∀ s:List UInt8,rowsOf 1 s.length (bcells s)=bytesRows s:=by
  intro s
  induction s with
  | nil=>rfl
  | cons a l ih =>
   have:bcells (a :: l)=.int .u8 (a.toNat:Int) :: bcells l:=rfl
   rw[this];simpa [rowsOf,bytesRows] using ih
 unfold rowsC;have h4:((bcells s).drop 0).take (s.length*1)=bcells s:=by rw[Nat.mul_one,drop_zero];exact take_of_length_le (by rw[bcells_len];exact Nat.le_refl _)
 rw[h4,h2,h3,if_pos ⟨by decide,by simp [bcells],h1 s⟩]
theorem dc51 (s:List UInt8) (hs:s.length<=1000000):G3 162 [.str s] []=some (.str (lowF s),[]):=by
 refine contract F162 rfl rfl rfl ?_;have hx:=dl51 s hs s.length 0 (by omega);rw[lowP_zero] at hx;have hb:s.length<=140737488355328:=by omega
 have hr:=rowsC_b (lowF s);have hll:(lowF s).length=s.length:=by simp [lowF]
 rw[hll] at hr;simp only[go_sem] at hx;simp only[F162,go_sem,hb,hx,hr]
theorem dl62 (s:List UInt8) (hs:s.length<=1000000):∀ (k i:Nat),i+k=s.length ->
  execX G3 L141_0 (ST [(3,.ss 0 0 s.length 1),(8,.ss 0 0 s.length 1),(9,.int .i64 s.length),(10,.int .i64 i)] [] [bcells (lowP s i)]) =
  some (.ex 0,ST [(3,.ss 0 0 s.length 1),(8,.ss 0 0 s.length 1),(9,.int .i64 s.length),(10,.int .i64 s.length),(11,.bool false)] [] [bcells (lowF s)])
 | 0,i,h=>by
  have:i=s.length:=by omega
  subst this;rw[Y_loop (L:=L141_0) rfl];simp only[go_sem,Int.lt_irrefl,lowP_end]
 | k+1,i,h=>by
  have h3:i < s.length:=by omega
  have h4:(i:Int) < (s.length:Int):=by omega
  have h0:(0:Int)<=(i:Int):=by omega
  have hw:IntKind.i64.wrap ((i:Int)+1)=((i+1:Nat):Int):=by rw[w64 (by omega) (by omega)];rfl
  have ih:=dl62 s hs k (i+1) (by omega);have ha:=bcells_at (lowP_at s i h3);by_cases hl:(65:Int)<=((s.getD i 0).toNat:Int)/\((s.getD i 0).toNat:Int)<=90
  ·have hn:=low_nat _ hl
   have hw8:IntKind.u8.wrap (IntKind.u8.wrap (((s.getD i 0).toNat:Int)+97) - 65)=((low8 (s.getD i 0)).toNat:Int):=by
    rw[hn,IntKind.wrap_u8,IntKind.wrap_u8];omega
   have hp:∀ x,putL i [x] (bcells (lowP s i))=some ((bcells (lowP s i)).set i x):=fun x=>putL_one _ _ x (by rw[bcells_len,lowP_len];exact h3)
   rw[Y_loop (L:=L141_0) rfl];simp only[go_sem,h4,h0,hw,Nat.mul_one,Nat.zero_add,ha,bcells_blk,hl.1,hl.2,hw8,hp,bcells_set,set_cons_zero,<- lowP_succ s i h3];exact ih
  ·have e:lowP s (i+1)=lowP s i:=lowP_same s i h3 (by unfold low8;rw[if_neg hl])
   rw[e] at ih;rw[Y_loop (L:=L141_0) rfl];by_cases h6:(65:Int)<=((s.getD i 0).toNat:Int)
   ·have h7:¬ ((s.getD i 0).toNat:Int)<=90:=fun h=>hl ⟨h6,h⟩
    simp only[go_sem,h4,h0,hw,Nat.mul_one,Nat.zero_add,ha,bcells_blk,h6,h7];exact ih
   ·simp only[go_sem,h4,h0,hw,Nat.mul_one,Nat.zero_add,ha,bcells_blk,h6]
    exact ih
theorem dc62 (s:List UInt8) (hs:s.length<=1000000):G3 141 [.str s] []=some (.str (lowF s),[]):=by
 refine contract F141 rfl rfl rfl ?_;have hx:=dl62 s hs s.length 0 (by omega);rw[lowP_zero] at hx;have hb:s.length<=140737488355328:=by omega
 have hr:=rowsC_b (lowF s);have hll:(lowF s).length=s.length:=by simp [lowF]
 rw[hll] at hr;simp only[go_sem] at hx;simp only[F141,go_sem,hb,hx,hr]
def kyF (k:Int) (s:List UInt8):List UInt8:=if k=6 then lowF s else s
theorem dc23 (k i:Int) (s:List UInt8) (hs:s.length<=1000000):G3 136 [.agg [.int .i64 k,.str s,.int .i64 i]] []=some (.str (kyF k s),[]):=by
 refine contract F136 rfl rfl rfl ?_;by_cases h1:k=6
 ·simp only[F136,go_sem,h1,kyF,dc51 s hs]
 ·simp only[F136,go_sem,h1,kyF]
theorem dc45 (k i:Int) (s:List UInt8) (hs:s.length<=1000000):G3 95 [.agg [.int .i64 k,.str s,.int .i64 i]] []=some (.str (kyF k s),[]):=by
 refine contract F95 rfl rfl rfl ?_;by_cases h1:k=6
 ·simp only[F95,go_sem,h1,kyF,dc62 s hs]
 ·simp only[F95,go_sem,h1,kyF]
def cutL:Nat->List UInt8->List Tk
 | 0,_=>[]
 | k+1,s=>if 1<=s.length then (nxK s,s.take (nxN s),0) :: cutL k (s.drop (nxN s)) else []
theorem dl46:∀ (k:Nat) (s:List UInt8) (md:Own) (out:List Tk),md≠.no->s.length<=k->out.length+s.length<=1000000 ->
  ∃ md',execX G3 L92_0 (ST [(0,.str s),(3,.sl md 3 (tks out))] [] [])=some (.ex 0,ST [(0,.str []),(3,.sl md' 3 (tks (out++cutL k s))),(11,.bool false)] [] [])
 | 0,s,md,out,hm,h1,h2=>by
  have:s=[]:=eq_nil_of_length_eq_zero (by omega)
  subst this;refine⟨md,?_⟩;rw[Y_loop (L:=L92_0) rfl];simp only[go_sem,cutL,Int.lt_irrefl]
 | k+1,s,md,out,hm,h1,h2=>by
  by_cases h3:1<=s.length
  ·have hn:=nx_le s h3
   obtain⟨md',ih⟩:=dl46 k (s.drop (nxN s)) .own (out++[(nxK s,s.take (nxN s),0)]) (by decide) (by simp;omega) (by simp;omega);have h4:(0:Int) < (s.length:Int):=by omega
   have h5:(0:Int) < (nxN s:Int):=by omega
   have h6:(0:Int)<=(nxN s:Int):=by omega
   have h7:(nxN s:Int)<=(s.length:Int):=by omega
   have hs:s.length<=1000000:=by omega
   have ha:appOK 32 (out.length+1)=true:=appOK_le (by decide) (by omega);refine⟨md',?_⟩;rw[Y_loop (L:=L92_0) rfl];simp only[cutL,h3,if_true];rw[append_assoc] at ih;by_cases a1:clsI (bt s 0)=4
   ·have dk1:nxK s=6:=by simp only[nxK,a1,if_true]
    rw[dk1] at ih ⊢;simp only[go_sem,h4,dc63 s hs h3 a1,dc64n s h3 (by omega),dc65n s hs h3 (by omega),h5,h6,h7,Int.lt_irrefl,appA_gen md _ hm 3 32 (by decide),tks_len,ha,tks_one,tks_app];exact ih
   by_cases a2:clsI (bt s 0)=3
   ·have dk1:nxK s=7:=by rw[nxK,if_neg a1,if_pos a2]
    rw[dk1] at ih ⊢;simp only[go_sem,h4,dc63n s h3 a1,dc64 s hs h3 a2,dc65n s hs h3 (by omega),h5,h6,h7,Int.lt_irrefl,appA_gen md _ hm 3 32 (by decide),tks_len,ha,tks_one,tks_app];exact ih
   by_cases a3:clsI (bt s 0)=2
   ·have dk1:nxK s=8:=by rw[nxK,if_neg a1,if_neg a2,if_pos a3]
    rw[dk1] at ih ⊢;simp only[go_sem,h4,dc63n s h3 a1,dc64n s h3 a2,dc65y s hs h3 a3,h5,h6,h7,Int.lt_irrefl,appA_gen md _ hm 3 32 (by decide),tks_len,ha,tks_one,tks_app];exact ih
   ·have dk1:nxK s=9:=by simp only[nxK,a1,a2,a3,if_true,if_false]
    have n1:nxN s=1:=by simp only[nxN,a1,a2,a3,if_true,if_false]
    have h8:(1:Int)<=(s.length:Int):=by omega
    rw[dk1,n1] at ih ⊢;simp only[go_sem,h4,dc63n s h3 a1,dc64n s h3 a2,dc65n s hs h3 a3,h8,Int.lt_irrefl,appA_gen md _ hm 3 32 (by decide),tks_len,ha,tks_one,tks_app];exact ih
  ·have:s=[]:=eq_nil_of_length_eq_zero (by omega)
   subst this;refine⟨md,?_⟩;rw[Y_loop (L:=L92_0) rfl];simp only[go_sem,cutL,Int.lt_irrefl]
def cutF (s:List UInt8):List Tk:=cutL s.length s
theorem dc46 (s:List UInt8) (hs:s.length<=1000000):G3 92 [.str s] []=some (.sl .no 3 (tks (cutF s)),[]):=by
 refine contract F92 rfl rfl rfl ?_;obtain⟨md',hx⟩:=dl46 s.length s .full [] (by decide) (by omega) (by simpa using hs);simp only[go_sem,tks_nil] at hx;simp only[F92,go_sem,hx,cutF]
theorem bne_nil {s:List UInt8} (h:1<=s.length):(s != [])=true:=by
 cases s with
 | nil=>simp at h
 | cons a l=>rfl
theorem dl43 (x:LL):∀ (k:Nat) (s:List UInt8) (md:Own) (out:List Tk),md≠.no->s.length<=k->out.length+s.length<=1000000 ->
  ∃ md',execX G3 L93_0 (ST [(3,.sl md 3 (tks out)),(6,.str s),(9,.sl .no 3 x),(10,.int .i64 1),(11,.int .i64 0),(12,.bool true),(17,.bool false),(26,.bool true)] [] [])=some (.ex 3,ST [(3,.sl md' 3 (tks (out++cutL k s))),(6,.str []),(9,.sl .no 3 x),(10,.int .i64 1),(11,.int .i64 0),(12,.bool true),(17,.bool false),(26,.bool true),(31,.bool false)] [] [])
 | 0,s,md,out,hm,h1,h2=>by
  have:s=[]:=eq_nil_of_length_eq_zero (by omega)
  subst this;refine⟨md,?_⟩;rw[Y_loop (L:=L93_0) rfl];simp only[go_sem,cutL,Int.lt_irrefl]
 | k+1,s,md,out,hm,h1,h2=>by
  by_cases h3:1<=s.length
  ·have hn:=nx_le s h3
   obtain⟨md',ih⟩:=dl43 x k (s.drop (nxN s)) .own (out++[(nxK s,s.take (nxN s),0)]) (by decide) (by simp;omega) (by simp;omega);have h6:(0:Int)<=(nxN s:Int):=by omega
   have h7:(nxN s:Int)<=(s.length:Int):=by omega
   have hs:s.length<=1000000:=by omega
   have ha:appOK 32 (out.length+1)=true:=appOK_le (by decide) (by omega);refine⟨md',?_⟩;rw[Y_loop (L:=L93_0) rfl];simp only[cutL,h3,if_true];rw[append_assoc] at ih;simp only[go_sem,bne_nil h3,dc61 s hs h3,h6,h7,appA_gen md _ hm 3 32 (by decide),tks_len,ha,tks_one,tks_app];exact ih
  ·have:s=[]:=eq_nil_of_length_eq_zero (by omega)
   subst this;refine⟨md,?_⟩;rw[Y_loop (L:=L93_0) rfl];simp only[go_sem,cutL,Int.lt_irrefl]
theorem dc43 (s:List UInt8) (hs:s.length<=1000000):G3 93 [.sl .no 3 [[.int .i64 1,.str s,.int .i64 0]]] []=some (.sl .no 3 (tks (cutF s)),[]):=by
 refine contract F93 rfl rfl rfl ?_;obtain⟨md',hx⟩:=dl43 [[.int .i64 1,.str s,.int .i64 0]] s.length s .full [] (by decide) (by omega) (by simpa using hs);simp only[go_sem,tks_nil] at hx;simp only[F93,go_sem];rw[Y_loop (L:=L93_1) rfl];simp only[go_sem,hx];rw[Y_loop (L:=L93_1) rfl];simp only[go_sem,cutF,Int.lt_irrefl]
theorem strs_one (s:List UInt8):[[AV.str s]]=strs [s]:=rfl
theorem strs_app (x y:List (List UInt8)):strs x++strs y=strs (x++y):=by simp [strs]
theorem strs_nil:strs []=[]:=rfl
def phr (T:List Tk):List (List UInt8):=(T.filter fun t=>cnt t.1).map fun t=>kyF t.1 t.2.1
theorem phr_yes {t:Tk} {l:List Tk} (h:cnt t.1=true):phr (t :: l)=kyF t.1 t.2.1 :: phr l:=by simp [phr,h]
theorem phr_no {t:Tk} {l:List Tk} (h:cnt t.1=false):phr (t :: l)=phr l:=by simp [phr,h]
theorem cutL_len:∀ (k:Nat) (s:List UInt8),(cutL k s).length<=s.length/\∀ t∈cutL k s,t.2.1.length<=s.length
 | 0,s=>by simp [cutL]
 | k+1,s=>by
  simp only[cutL];split
  ·rename_i h
   have hn:=nx_le s h;have ih:=cutL_len k (s.drop (nxN s));simp only[length_drop] at ih;refine⟨by simp only[length_cons];omega,fun t ht=>?_⟩;simp only[mem_cons] at ht;rcases ht with ht | ht
   ·subst ht;simp;omega
   ·have:=ih.2 t ht;omega
  ·simp
theorem dl16 (T:List Tk) (hT:T.length<=1000000) (hT2:∀ t∈T,t.2.1.length<=1000000):∀ (k i:Nat) (md:Own) (out:List (List UInt8)),md≠.no->i+k=T.length->out.length<=i ->
  ∃ md',execX G3 L51_0 (ST [(3,.sl md 1 (strs out)),(7,.bool false),(11,.sl .no 3 (tks T)),(12,.int .i64 T.length),(13,.int .i64 i)] [] [])=some (.ex 0,ST [(3,.sl md' 1 (strs (out++phr (T.drop i)))),(7,.bool false),(11,.sl .no 3 (tks T)),(12,.int .i64 T.length),(13,.int .i64 T.length),(14,.bool false)] [] [])
 | 0,i,md,out,hm,h1,h2=>by
  have:i=T.length:=by omega
  subst this;refine⟨md,?_⟩;rw[Y_loop (L:=L51_0) rfl];simp only[go_sem,Int.lt_irrefl,drop_length];simp [phr]
 | k+1,i,md,out,hm,h1,h2=>by
  have h3:i < T.length:=by omega
  have h4:(i:Int) < (T.length:Int):=by omega
  have h0:(0:Int)<=(i:Int):=by omega
  have hw:IntKind.i64.wrap ((i:Int)+1)=((i+1:Nat):Int):=by rw[w64 (by omega) (by omega)];rfl
  have hg:T[i]?=some T[i]:=getElem?_eq_getElem h3;have hd:T.drop i=T[i] :: T.drop (i+1):=drop_eq_getElem_cons h3;have hl:T[i].2.1.length<=1000000:=hT2 _ (getElem_mem h3);have hr:=tks_at hg;by_cases h5:cnt T[i].1=true
  ·obtain⟨md',ih⟩:=dl16 T hT hT2 k (i+1) .own (out++[kyF T[i].1 T[i].2.1]) (by decide) (by omega) (by simp;omega)
   refine⟨md',?_⟩;have e:phr (T.drop i)=kyF T[i].1 T[i].2.1 :: phr (T.drop (i+1)):=by rw[hd,phr_yes h5]
   rw[e];rw[append_assoc] at ih;have ha:appOK 16 (out.length+1)=true:=appOK_le (by decide) (by omega);rw[Y_loop (L:=L51_0) rfl];simp only[go_sem,h4,h0,hw,hr,dc44,dc45 _ _ _ hl,h5,appA_gen md _ hm 1 16 (by decide),strs_len,ha,strs_one,strs_app];exact ih
  ·obtain⟨md',ih⟩:=dl16 T hT hT2 k (i+1) md out hm (by omega) (by omega)
   refine⟨md',?_⟩;have h5':cnt T[i].1=false:=by simpa using h5
   have e:phr (T.drop i)=phr (T.drop (i+1)):=by rw[hd,phr_no h5']
   rw[e];rw[Y_loop (L:=L51_0) rfl];simp only[go_sem,h4,h0,hw,hr,dc44,h5'];exact ih
theorem dl17 (T:List Tk) (hT:T.length<=1000000) (hT2:∀ t∈T,t.2.1.length<=1000000):∀ (k i:Nat) (md:Own) (out:List (List UInt8)),md≠.no->i+k=T.length->out.length<=i ->
  ∃ md',execX G3 L90_0 (ST [(3,.sl md 1 (strs out)),(7,.sl .no 3 (tks T)),(8,.int .i64 T.length),(9,.int .i64 i)] [] [])=some (.ex 0,ST [(3,.sl md' 1 (strs (out++phr (T.drop i)))),(7,.sl .no 3 (tks T)),(8,.int .i64 T.length),(9,.int .i64 T.length),(10,.bool false)] [] [])
 | 0,i,md,out,hm,h1,h2=>by
  have:i=T.length:=by omega
  subst this;refine⟨md,?_⟩;rw[Y_loop (L:=L90_0) rfl];simp only[go_sem,Int.lt_irrefl,drop_length];simp [phr]
 | k+1,i,md,out,hm,h1,h2=>by
  have h3:i < T.length:=by omega
  have h4:(i:Int) < (T.length:Int):=by omega
  have h0:(0:Int)<=(i:Int):=by omega
  have hw:IntKind.i64.wrap ((i:Int)+1)=((i+1:Nat):Int):=by rw[w64 (by omega) (by omega)];rfl
  have hg:T[i]?=some T[i]:=getElem?_eq_getElem h3;have hd:T.drop i=T[i] :: T.drop (i+1):=drop_eq_getElem_cons h3;have hl:T[i].2.1.length<=1000000:=hT2 _ (getElem_mem h3);have hr:=tks_at hg;by_cases h5:cnt T[i].1=true
  ·obtain⟨md',ih⟩:=dl17 T hT hT2 k (i+1) .own (out++[kyF T[i].1 T[i].2.1]) (by decide) (by omega) (by simp;omega)
   refine⟨md',?_⟩;have e:phr (T.drop i)=kyF T[i].1 T[i].2.1 :: phr (T.drop (i+1)):=by rw[hd,phr_yes h5]
   rw[e];rw[append_assoc] at ih;have ha:appOK 16 (out.length+1)=true:=appOK_le (by decide) (by omega);rw[Y_loop (L:=L90_0) rfl];simp only[go_sem,h4,h0,hw,hr,dc47,dc23 _ _ _ hl,h5,appA_gen md _ hm 1 16 (by decide),strs_len,ha,strs_one,strs_app];exact ih
  ·obtain⟨md',ih⟩:=dl17 T hT hT2 k (i+1) md out hm (by omega) (by omega)
   refine⟨md',?_⟩;have h5':cnt T[i].1=false:=by simpa using h5
   have e:phr (T.drop i)=phr (T.drop (i+1)):=by rw[hd,phr_no h5']
   rw[e];rw[Y_loop (L:=L90_0) rfl];simp only[go_sem,h4,h0,hw,hr,dc47,h5'];exact ih
def phrF (s:List UInt8):List (List UInt8):=phr (cutF s)
theorem dc17 (s:List UInt8) (hs:s.length<=1000000):G3 90 [.str s] []=some (.sl .no 1 (strs (phrF s)),[]):=by
 refine contract F90 rfl rfl rfl ?_;have hc:=cutL_len s.length s;obtain⟨md',hx⟩:=dl17 (cutF s) (by unfold cutF;omega) (fun t ht=>by have:=hc.2 t ht;omega) (cutF s).length 0 .full [] (by decide) (by omega) (by simp);simp only[go_sem,strs_nil,drop_zero] at hx;simp only[F90,go_sem,dc46 s hs,tks_len,hx,phrF]
theorem dc16 (s:List UInt8) (hs:s.length<=1000000):G3 51 [.str s] []=some (.sl .no 1 (strs (phrF s)),[]):=by
 refine contract F51 rfl rfl rfl ?_;by_cases h1:1<=s.length
 ·have hc:=cutL_len s.length s
  obtain⟨md',hx⟩:=dl16 (cutF s) (by unfold cutF;omega) (fun t ht=>by have:=hc.2 t ht;omega) (cutF s).length 0 .full [] (by decide) (by omega) (by simp);simp only[go_sem,strs_nil,drop_zero] at hx;simp only[F51,go_sem,beq_nil h1,dc43 s hs,tks_len,hx,phrF]
 ·have:s=[]:=eq_nil_of_length_eq_zero (by omega)
  subst this;simp only[F51,go_sem];rfl
end Go.Av
namespace Go.Av
open Go.Nt
theorem bne_self_s (s:List UInt8):(s != s)=false:=by simp
theorem dl15 (a:List (List UInt8)) (ha:a.length<=1000000000):∀ (k i:Nat),i+k=a.length ->
  execX G3 L50_0 (ST [(0,.sl .no 1 (strs a)),(1,.sl .no 1 (strs a)),(10,.bool false),(12,.int .i64 a.length),(13,.int .i64 i)] [] [])=some (.ex 0,ST [(0,.sl .no 1 (strs a)),(1,.sl .no 1 (strs a)),(10,.bool false),(12,.int .i64 a.length),(13,.int .i64 a.length),(14,.bool false)] [] [])
 | 0,i,h=>by
  have:i=a.length:=by omega
  subst this;rw[Y_loop (L:=L50_0) rfl];simp only[go_sem,Int.lt_irrefl]
 | k+1,i,h=>by
  have h4:(i:Int) < (a.length:Int):=by omega
  have h0:(0:Int)<=(i:Int):=by omega
  have hw:IntKind.i64.wrap ((i:Int)+1)=((i+1:Nat):Int):=by rw[w64 (by omega) (by omega)];rfl
  have hr:=strs_at (getElem?_eq_getElem (show i < a.length by omega));have ih:=dl15 a ha k (i+1) (by omega);rw[Y_loop (L:=L50_0) rfl];simp only[go_sem,h4,h0,hw,hr,bne_self_s];exact ih
theorem dc15 (a:List (List UInt8)) (ha:a.length<=1000000000):G3 50 [.sl .no 1 (strs a),.sl .no 1 (strs a)] []=some (.bool true,[]):=by
 refine contract F50 rfl rfl rfl ?_;have hx:=dl15 a ha a.length 0 (by omega);simp only[go_sem] at hx;simp only[F50,go_sem,strs_len,hx]
end Go.Av
namespace Go.Av
open Go.Nt
theorem dc42k (s:List UInt8) (hs:s.length<=1000000):G3 49 [.sl .no 3 [[.int .i64 1,.str s,.int .i64 0]]] []=some (.sl .no 3 (tks (cutF s)),[]):=by
 refine contract F49 rfl rfl rfl ?_;have hc:=cutL_len s.length s;have ha:appOK 32 (cutF s).length=true:=appOK_le (by decide) (by unfold cutF;omega);simp only[F49,go_sem];rw[Y_loop (L:=L49_0) rfl];simp only[go_sem,dc46 s hs,appA_gen .full .no (by decide) 3 32 (by decide),tks_len,ha];rw[Y_loop (L:=L49_0) rfl];simp only[go_sem,Int.lt_irrefl]
theorem dl49 (a:List (List UInt8)) (ha:a.length<=1000000000):∀ (k i:Nat),i+k=a.length ->
  execX G3 L96_0 (ST [(0,.sl .no 1 (strs a)),(1,.sl .no 1 (strs a)),(10,.bool false),(12,.int .i64 a.length),(13,.int .i64 i)] [] [])=some (.ex 0,ST [(0,.sl .no 1 (strs a)),(1,.sl .no 1 (strs a)),(10,.bool false),(12,.int .i64 a.length),(13,.int .i64 a.length),(14,.bool false)] [] [])
 | 0,i,h=>by
  have:i=a.length:=by omega
  subst this;rw[Y_loop (L:=L96_0) rfl];simp only[go_sem,Int.lt_irrefl]
 | k+1,i,h=>by
  have h4:(i:Int) < (a.length:Int):=by omega
  have h0:(0:Int)<=(i:Int):=by omega
  have hw:IntKind.i64.wrap ((i:Int)+1)=((i+1:Nat):Int):=by rw[w64 (by omega) (by omega)];rfl
  have hr:=strs_at (getElem?_eq_getElem (show i < a.length by omega));have ih:=dl49 a ha k (i+1) (by omega);rw[Y_loop (L:=L96_0) rfl];simp only[go_sem,h4,h0,hw,hr,bne_self_s];exact ih
theorem dc49 (a:List (List UInt8)) (ha:a.length<=1000000000):G3 96 [.sl .no 1 (strs a),.sl .no 1 (strs a)] []=some (.bool true,[]):=by
 refine contract F96 rfl rfl rfl ?_;have hx:=dl49 a ha a.length 0 (by omega);simp only[go_sem] at hx;simp only[F96,go_sem,strs_len,hx]
def prT (l:List (Int × Int)):List (List AV):=l.map fun p=>[.int .i64 p.1,.int .i64 p.2]
theorem prT_len (l:List (Int × Int)):(prT l).length=l.length:=by simp [prT]
theorem prT_one (x y:Int):[[AV.int .i64 x,AV.int .i64 y]]=prT [(x,y)]:=rfl
theorem prT_app (x y:List (Int × Int)):prT x++prT y=prT (x++y):=by simp [prT]
theorem prT_nil:prT []=[]:=rfl
theorem prT_at {l:List (Int × Int)} {i:Nat} {p:Int × Int} (h:l[i]?=some p):(prT l)[i]?=some [.int .i64 p.1,.int .i64 p.2]:=by simp [prT,h]
theorem dl19 (a:List (Int × Int)) (ha:a.length<=1000000000):∀ (k i:Nat),i+k=a.length ->
  execX G3 L52_0 (ST [(0,.sl .no 2 (prT a)),(1,.sl .no 2 (prT a)),(10,.bool false),(12,.int .i64 a.length),(13,.int .i64 i)] [] [])=some (.ex 0,ST [(0,.sl .no 2 (prT a)),(1,.sl .no 2 (prT a)),(10,.bool false),(12,.int .i64 a.length),(13,.int .i64 a.length),(14,.bool false)] [] [])
 | 0,i,h=>by
  have:i=a.length:=by omega
  subst this;rw[Y_loop (L:=L52_0) rfl];simp only[go_sem,Int.lt_irrefl]
 | k+1,i,h=>by
  have h4:(i:Int) < (a.length:Int):=by omega
  have h0:(0:Int)<=(i:Int):=by omega
  have hw:IntKind.i64.wrap ((i:Int)+1)=((i+1:Nat):Int):=by rw[w64 (by omega) (by omega)];rfl
  have hr:=prT_at (getElem?_eq_getElem (show i < a.length by omega));have ih:=dl19 a ha k (i+1) (by omega);rw[Y_loop (L:=L52_0) rfl];simp only[go_sem,h4,h0,hw,hr];exact ih
theorem dc19 (a:List (Int × Int)) (ha:a.length<=1000000000):G3 52 [.sl .no 2 (prT a),.sl .no 2 (prT a)] []=some (.bool true,[]):=by
 refine contract F52 rfl rfl rfl ?_;have hx:=dl19 a ha a.length 0 (by omega);simp only[go_sem] at hx;simp only[F52,go_sem,prT_len,hx]
theorem dk20:G3 53 [.sl .no 1 [[.str [97]],[.str [97]]],.sl .no 3 (tks [(6,[97],0),(8,[32],0),(6,[97],0),(8,[32,32],0),(6,[97],0)])] []=some (.sl .no 2 (prT [(0,3),(2,5)]),[]):=by
 refine contract F53 rfl rfl rfl ?_;have hl:lowF [97]=[97]:=by decide
 have h49:=dc49 [[97],[97]] (by decide);have e:strs [[97],[97]]=[[.str [97]],[.str [97]]]:=rfl;rw[e] at h49;have h6:cnt 6=true:=rfl;have h8:cnt 8=false:=rfl;have dk6:kyF 6 [97]=[97]:=by decide
 have kk:∀ k i:Int,G3 95 [.agg [.int .i64 k,.str [97],.int .i64 i]] []=some (.str (kyF k [97]),[]):=fun k i=>dc45 k i [97] (by decide)
 have ok1:∀ b n:Nat,b<=100000->n<=1000->appOK b n=true:=fun b n h1 h2=>appOK_le h1 (by omega)
 have a1:appOK 8 1=true:=ok1 _ _ (by decide) (by decide);have a2:appOK 8 2=true:=ok1 _ _ (by decide) (by decide);have a3:appOK 8 3=true:=ok1 _ _ (by decide) (by decide);have b1:appOK 16 1=true:=ok1 _ _ (by decide) (by decide);have b2:appOK 16 2=true:=ok1 _ _ (by decide) (by decide);have b3:appOK 16 3=true:=ok1 _ _ (by decide) (by decide);simp only[F53,go_sem,tks,tkR]
 iterate 6
  rw[Y_loop (L:=L53_0) rfl];simp only[go_sem,dc44,kk,h6,h8,dk6,a1,a2,a3,b1,b2,b3,getElem?_cons_zero,getElem?_cons_succ]
 iterate 3
  rw[Y_loop (L:=L53_1) rfl];simp only[go_sem,h49,a1,a2,a3,b1,b2,b3,getElem?_cons_zero,getElem?_cons_succ,take_succ_cons,drop_succ_cons,drop_zero,Int.le_refl,appA_gen .full .full (by decide) 2 16 (by decide),appA_gen .own .full (by decide) 2 16 (by decide)]
 rfl
theorem bne_ne_s {s t:List UInt8} (h:s≠t):(s != t)=true:=by simp [h]
theorem dl49g (a b:List (List UInt8)) (hab:a.length=b.length) (ha:a.length<=1000000000):∀ (k i:Nat),i+k=a.length ->
  (a.drop i=b.drop i->∃ l',execX G3 L96_0 (ST [(0,.sl .no 1 (strs a)),(1,.sl .no 1 (strs b)),(10,.bool false),(12,.int .i64 a.length),(13,.int .i64 i)] [] [])=some (.ex 0,ST l' [] [])) /\
  (a.drop i≠b.drop i->∃ l',execX G3 L96_0 (ST [(0,.sl .no 1 (strs a)),(1,.sl .no 1 (strs b)),(10,.bool false),(12,.int .i64 a.length),(13,.int .i64 i)] [] [])=some (.ret,ST l' [] [])/\look .any l' 4=.bool false)
 | 0,i,h=>by
  have:i=a.length:=by omega
  subst this;refine⟨fun _=>?_,fun h=>absurd (by simp [hab]) h⟩;refine Exists.intro ?_ ?_
  rotate_left 1
  ·rw[Y_loop (L:=L96_0) rfl]
   simp only[go_sem,Int.lt_irrefl];rfl
 | k+1,i,h=>by
  have h4:(i:Int) < (a.length:Int):=by omega
  have h0:(0:Int)<=(i:Int):=by omega
  have hw:IntKind.i64.wrap ((i:Int)+1)=((i+1:Nat):Int):=by rw[w64 (by omega) (by omega)];rfl
  have hi:i < a.length:=by omega
  have hj:i < b.length:=by omega
  have hr:=strs_at (getElem?_eq_getElem hi);have hr2:=strs_at (getElem?_eq_getElem hj);have da:a.drop i=a[i] :: a.drop (i+1):=drop_eq_getElem_cons hi;have db:b.drop i=b[i] :: b.drop (i+1):=drop_eq_getElem_cons hj;have ih:=dl49g a b hab ha k (i+1) (by omega);rw[da,db];by_cases he:a[i]=b[i]
  ·rw[he] at hr
   constructor
   ·intro hd
    obtain⟨l',e1⟩:=ih.1 (List.cons.inj hd).2;refine⟨l',?_⟩;rw[Y_loop (L:=L96_0) rfl];simp only[go_sem,h4,h0,hw,hr,hr2,bne_self_s];exact e1
   ·intro hd
    obtain⟨l',e1,e2⟩:=ih.2 (fun h=>hd (by rw[he,h]));refine⟨l',?_,e2⟩;rw[Y_loop (L:=L96_0) rfl];simp only[go_sem,h4,h0,hw,hr,hr2,bne_self_s];exact e1
  ·refine⟨fun hd=>absurd (List.cons.inj hd).1 he,fun _=>?_⟩
   refine Exists.intro ?_ (And.intro ?_ ?_)
   rotate_left 1
   ·rw[Y_loop (L:=L96_0) rfl]
    simp only[go_sem,h4,h0,hw,hr,hr2,bne_ne_s he];rfl
   ·rfl
theorem dc49g (a b:List (List UInt8)) (hab:a.length=b.length) (ha:a.length<=1000000000):G3 96 [.sl .no 1 (strs a),.sl .no 1 (strs b)] []=some (.bool (decide (a=b)),[]):=by
 by_cases h:a=b
 ·subst h
  rw[dc49 a ha];simp
 ·refine contract F96 rfl rfl rfl ?_
  have hx:=dl49g a b hab ha a.length 0 (by omega);rw[drop_zero,drop_zero] at hx;obtain⟨l',e,e2⟩:=hx.2 h;rw[hab] at e;simp only[go_sem] at e;simp only[F96,go_sem,strs_len,hab,e,e2,h,look_setl,look_kill]
def plcT:Nat->List Tk->List Int
 | _,[]=>[]
 | p,t :: T=>if cnt t.1=true then (p:Int) :: plcT (p+1) T else plcT (p+1) T
theorem plcT_len:∀ (T:List Tk) (p:Nat),(plcT p T).length=(phr T).length
 | [],_=>rfl
 | t :: T,p=>by
  have ih:=plcT_len T (p+1);by_cases h:cnt t.1=true
  ·rw[phr_yes h];simp [plcT,h,ih]
  ·rw[phr_no (by simpa using h)];simp [plcT,h,ih]
theorem ints_one (x:Int):[[AV.int .i64 x]]=ints [x]:=rfl
theorem ints_app (x y:List Int):ints x++ints y=ints (x++y):=by simp [ints]
theorem dl20a (w:List (List UInt8)) (T:List Tk) (hT:T.length<=1000000) (hT2:∀ t∈T,t.2.1.length<=1000000):∀ (k i:Nat) (md:Own) (P:List Int) (K:List (List UInt8)),md≠.no->i+k=T.length->P.length<=i->K.length<=i ->
  ∃ md',md'≠.no/\execX G3 L53_0 (ST [(0,.sl .no 1 (strs w)),(5,.sl md 1 (ints P)),(6,.sl md 1 (strs K)),(13,.bool false),(14,.sl .no 3 (tks T)),(15,.int .i64 T.length),(16,.int .i64 i)] [] [])=some (.ex 0,ST [(0,.sl .no 1 (strs w)),(5,.sl md' 1 (ints (P++plcT i (T.drop i)))),(6,.sl md' 1 (strs (K++phr (T.drop i)))),(13,.bool false),(14,.sl .no 3 (tks T)),(15,.int .i64 T.length),(16,.int .i64 T.length),(17,.bool false)] [] [])
 | 0,i,md,P,K,hm,h1,h2,h2'=>by
  have:i=T.length:=by omega
  subst this;refine⟨md,hm,?_⟩;rw[Y_loop (L:=L53_0) rfl];simp only[go_sem,Int.lt_irrefl,drop_length];simp [phr,plcT]
 | k+1,i,md,P,K,hm,h1,h2,h2'=>by
  have h3:i < T.length:=by omega
  have h4:(i:Int) < (T.length:Int):=by omega
  have h0:(0:Int)<=(i:Int):=by omega
  have hw:IntKind.i64.wrap ((i:Int)+1)=((i+1:Nat):Int):=by rw[w64 (by omega) (by omega)];rfl
  have hg:T[i]?=some T[i]:=getElem?_eq_getElem h3;have hd:T.drop i=T[i] :: T.drop (i+1):=drop_eq_getElem_cons h3;have hl:T[i].2.1.length<=1000000:=hT2 _ (getElem_mem h3);have hr:=tks_at hg;by_cases h5:cnt T[i].1=true
  ·obtain⟨md',hm',ih⟩:=dl20a w T hT hT2 k (i+1) .own (P++[(i:Int)]) (K++[kyF T[i].1 T[i].2.1]) (by decide) (by omega) (by simp;omega) (by simp;omega)
   refine⟨md',hm',?_⟩;have e:phr (T.drop i)=kyF T[i].1 T[i].2.1 :: phr (T.drop (i+1)):=by rw[hd,phr_yes h5]
   have e2:plcT i (T.drop i)=(i:Int) :: plcT (i+1) (T.drop (i+1)):=by rw[hd];simp only[plcT,h5,if_true]
   rw[e,e2];rw[append_assoc,append_assoc] at ih;have ha:appOK 16 (K.length+1)=true:=appOK_le (by decide) (by omega);have ha2:appOK 8 (P.length+1)=true:=appOK_le (by decide) (by omega);rw[Y_loop (L:=L53_0) rfl];simp only[go_sem,h4,h0,hw,hr,dc44,dc45 _ _ _ hl,h5,appA_gen md _ hm 1 16 (by decide),appA_gen md _ hm 1 8 (by decide),strs_len,ints_length,ha,ha2,strs_one,strs_app,ints_one,ints_app];exact ih
  ·obtain⟨md',hm',ih⟩:=dl20a w T hT hT2 k (i+1) md P K hm (by omega) (by omega) (by omega)
   refine⟨md',hm',?_⟩;have h5':cnt T[i].1=false:=by simpa using h5
   have e:phr (T.drop i)=phr (T.drop (i+1)):=by rw[hd,phr_no h5']
   have e2:plcT i (T.drop i)=plcT (i+1) (T.drop (i+1)):=by rw[hd];simp only[plcT,h5',Bool.false_eq_true,if_false]
   rw[e,e2];rw[Y_loop (L:=L53_0) rfl];simp only[go_sem,h4,h0,hw,hr,dc44,h5'];exact ih
def occ (P:List Int) (K w:List (List UInt8)):Nat->Nat->List (Int × Int)
 | 0,_=>[]
 | k+1,i=>if i+w.length<=K.length then (if (K.take (i+w.length)).drop i=w then (P.getD i 0,P.getD (i+w.length - 1) 0+1) :: occ P K w k (i+1) else occ P K w k (i+1)) else []
theorem strs_slc (K:List (List UInt8)) (a b:Nat):((strs K).take b).drop a=strs ((K.take b).drop a):=by simp [strs,map_take,map_drop]
theorem dl20b (w:List (List UInt8)) (hw1:1<=w.length) (hw2:w.length<=1000000) (P:List Int) (K:List (List UInt8)) (hPK:P.length=K.length) (hK:K.length<=1000000) (hP:∀ x∈P,0<=x/\x<=1000000) (md1 md2:Own) (hd1:demV (.sl md1 1 (ints P))=.sl (demO md1) 1 (ints P)) (X:AV) (hX:∀ kl,scrubV kl X=X) (y:Int):∀ (k i:Nat) (md:Own) (out:List (Int × Int)),md≠.no->K.length+1<=i+k->out.length<=i->i<=K.length+1 ->
  ∃ md' j,execX G3 L53_1 (ST [(0,.sl .no 1 (strs w)),(5,.sl md1 1 (ints P)),(6,.sl md2 1 (strs K)),(9,.sl md 2 (prT out)),(10,.int .i64 i),(13,.bool false),(14,X),(15,.int .i64 y),(16,.int .i64 y),(17,.bool false)] [] [])=some (.ex 2,ST [(0,.sl .no 1 (strs w)),(5,.sl md1 1 (ints P)),(6,.sl md2 1 (strs K)),(9,.sl md' 2 (prT (out++occ P K w k i))),(10,.int .i64 j),(13,.bool false),(14,X),(15,.int .i64 y),(16,.int .i64 y),(17,.bool false),(39,.bool false)] [] [])
 | 0,i,md,out,hm,h1,h2,h3=>by
  have h4:IntKind.i64.wrap ((i:Int)+(w.length:Int))=(((i+w.length:Nat)):Int):=by rw[w64 (by omega) (by omega)];rfl
  have h5:¬ (((i+w.length:Nat)):Int)<=(K.length:Int):=by omega
  refine⟨md,i,?_⟩;rw[Y_loop (L:=L53_1) rfl];simp only[go_sem,strs_len,h4,h5,occ,hX]
 | k+1,i,md,out,hm,h1,h2,h3=>by
  have h4:IntKind.i64.wrap ((i:Int)+(w.length:Int))=(((i+w.length:Nat)):Int):=by rw[w64 (by omega) (by omega)];rfl
  have hw:IntKind.i64.wrap ((i:Int)+1)=((i+1:Nat):Int):=by rw[w64 (by omega) (by omega)];rfl
  by_cases h5:i+w.length<=K.length
  ·have h5':(((i+w.length:Nat)):Int)<=(K.length:Int):=by omega
   have h0:(0:Int)<=(i:Int):=by omega
   have h6:(i:Int)<=(((i+w.length:Nat)):Int):=by omega
   have hlen:((K.take (i+w.length)).drop i).length=w.length:=by simp;omega
   have h49:=dc49g ((K.take (i+w.length)).drop i) w hlen (by omega);by_cases h7:(K.take (i+w.length)).drop i=w
   ·obtain⟨md',j,ih⟩:=dl20b w hw1 hw2 P K hPK hK hP md1 md2 hd1 X hX y k (i+1) .own (out++[(P.getD i 0,P.getD (i+w.length - 1) 0+1)]) (by decide) (by omega) (by simp;omega) (by omega)
    have g1:P[i]?=some (P.getD i 0):=by simp [getD_eq_getElem?_getD,(show i < P.length by omega)]
    have g2:P[i+w.length - 1]?=some (P.getD (i+w.length - 1) 0):=by simp [getD_eq_getElem?_getD,(show i+w.length - 1 < P.length by omega)]
    have hb:=hP _ (mem_of_getElem? g2);have h8:IntKind.i64.wrap ((((i+w.length:Nat)):Int) - 1)=(((i+w.length - 1:Nat)):Int):=by rw[w64 (by omega) (by omega)];omega
    have h9:(0:Int)<=(((i+w.length - 1:Nat)):Int):=by omega
    have h10:IntKind.i64.wrap (P.getD (i+w.length - 1) 0+1)=P.getD (i+w.length - 1) 0+1:=w64 (by omega) (by omega);have ha:appOK 16 (out.length+1)=true:=appOK_le (by decide) (by omega);have e:occ P K w (k+1) i=(P.getD i 0,P.getD (i+w.length - 1) 0+1) :: occ P K w k (i+1):=by simp only[occ];rw[if_pos h5,if_pos h7]
    rw[e];rw[append_assoc] at ih;refine⟨md',j,?_⟩;rw[Y_loop (L:=L53_1) rfl];simp only[go_sem,strs_len,h4,h5',h0,h6,strs_slc,h7,dc49 w (by omega),hX,ints_at g1,ints_at g2,h8,h9,h10,appA_gen md _ hm 2 16 (by decide),prT_len,ha,prT_one,prT_app,hw];exact ih
   ·obtain⟨md',j,ih⟩:=dl20b w hw1 hw2 P K hPK hK hP md1 md2 hd1 X hX y k (i+1) md out hm (by omega) (by omega) (by omega)
    have e:occ P K w (k+1) i=occ P K w k (i+1):=by simp only[occ];rw[if_pos h5,if_neg h7]
    rw[e];refine⟨md',j,?_⟩;rw[Y_loop (L:=L53_1) rfl];simp only[go_sem,strs_len,h4,h5',h0,h6,strs_slc,h49,h7,hX,hw];exact ih
  ·have h5':¬ (((i+w.length:Nat)):Int)<=(K.length:Int):=by omega
   refine⟨md,i,?_⟩;have e:occ P K w (k+1) i=[]:=by simp only[occ];rw[if_neg h5]
   rw[e];rw[Y_loop (L:=L53_1) rfl];simp only[go_sem,strs_len,h4,h5',hX]
def occF (w:List (List UInt8)) (T:List Tk):List (Int × Int):=if w.length=0 then [] else occ (plcT 0 T) (phr T) w ((phr T).length+1) 0
theorem phr_le (T:List Tk):(phr T).length<=T.length:=by
 unfold phr;rw[length_map];exact length_filter_le _ _
theorem plcT_bd:∀ (T:List Tk) (p:Nat),∀ x∈plcT p T,(p:Int)<=x/\x < ((p+T.length:Nat):Int)
 | [],_,x,h=>by simp [plcT] at h
 | t :: T,p,x,h=>by
  have ih:=plcT_bd T (p+1) x;simp only[plcT] at h;simp only[length_cons]
  split at h
  ·rcases mem_cons.1 h with h | h
   ·subst h;omega
   ·have:=ih h;omega
  ·have:=ih h;omega
theorem dc20 (w:List (List UInt8)) (T:List Tk) (hw:w.length<=1000000) (hT:T.length<=100000) (hT2:∀ t∈T,t.2.1.length<=1000000):G3 53 [.sl .no 1 (strs w),.sl .no 3 (tks T)] []=some (.sl .no 2 (prT (occF w T)),[]):=by
 refine contract F53 rfl rfl rfl ?_;by_cases h1:w.length=0
 ·have h2:((w.length:Nat):Int)=0:=by omega
  simp only[F53,go_sem,strs_len,h2,occF,h1,prT_nil]
 ·have h2:¬ ((w.length:Nat):Int)=0:=by omega
  obtain⟨md1,hm1,e1⟩:=dl20a w T (by omega) hT2 T.length 0 .full [] [] (by decide) (by omega) (by simp) (by simp);have hl:=phr_le T;obtain⟨md2,j,e2⟩:=dl20b w (by omega) hw (plcT 0 T) (phr T) (plcT_len T 0) (by omega) (fun x hx=>by have:=plcT_bd T 0 x hx;omega) md1 md1 (demV_sl _ _ _) (.sl .no 3 (tks T)) (fun _=>rfl) T.length ((phr T).length+1) 0 .full [] (by decide) (by omega) (by simp) (by omega);simp only[go_sem,strs_nil,ints_nil,prT_nil,drop_zero] at e1 e2;simp only[F53,go_sem,strs_len,tks_len,h2,e1,e2,occF,h1]
end Go.Av
namespace Go.Av
open Go.Nt
theorem c14c:G3 14 [] []=some (.bool true,[]):=by
 refine contract F14 rfl rfl rfl ?_;have h42:=dc42k [97,32,97,32,32,97] (by decide);have e1:cutF [97,32,97,32,32,97]=[(6,[97],0),(8,[32],0),(6,[97],0),(8,[32,32],0),(6,[97],0)]:=by decide +kernel
 rw[e1] at h42;have h16:=dc16 [82,69,68,44,32,99,97,114] (by decide);have e2:phrF [82,69,68,44,32,99,97,114]=[[114,101,100],[99,97,114]]:=by decide +kernel
 rw[e2] at h16;have h15:=dc15 [[114,101,100],[99,97,114]] (by decide);have e3:strs [[114,101,100],[99,97,114]]=[[.str [114,101,100]],[.str [99,97,114]]]:=rfl;rw[e3] at h15 h16;have h19:=dc19 [(0,3),(2,5)] (by decide);have e4:prT [(0,3),(2,5)]=[[.int .i64 0,.int .i64 3],[.int .i64 2,.int .i64 5]]:=rfl;have h20:=dk20;rw[e4] at h19 h20;simp only[F14,go_sem,h42,h16,h15,h20,h19]
theorem l15k (l:List Int):∀ (k n:Nat) (m:List En) (md:Own),MG m->m.length+k<=100->n+1000*k<=50000 ->
  ∃ n' m' md',MG m'/\m'.length<=m.length+k/\n'<=n+1000*k/\execX G3 L15_0 (ST [(0,.ptr 0 0),(5,.sl md 8 (ens m)),(6,.int .i64 k)] [] [num l n])=some (.ex 0,ST [(0,.ptr 0 0),(5,.sl md' 8 (ens m')),(6,.int .i64 0),(12,.bool false)] [] [num l n'])
 | 0,n,m,md,h,h1,h2=>by
  refine⟨n,m,md,h,by omega,by omega,?_⟩;rw[Y_loop (L:=L15_0) rfl];simp only[go_sem,Int.lt_irrefl]
 | k+1,n,m,md,h,h1,h2=>by
  obtain⟨n1,e,a1,a2,a3⟩:=k55 l n (by omega);have a3:=up a3 rfl;have b1:=k30 m (by omega) h.be e a2.2;rw[(h.putE (by omega) a2).1,(h.putE (by omega) a2).2] at b1;have b1:=up b1 rfl;have hp:=putM_len m h.1.2 e;obtain⟨n',m',md',c1,c2,c4,c3⟩:=l15k l k n1 (putM m e) .no (h.put a2) (by omega) (by omega);refine⟨n',m',md',c1,by omega,by omega,?_⟩;have hk:(0:Int) < ((k+1:Nat):Int):=by omega
  have hwk:IntKind.i64.wrap (((k+1:Nat):Int) - 1)=(k:Int):=by rw[w64 (by omega) (by omega)];omega
  simp only[rowE] at a3 b1;rw[Y_loop (L:=L15_0) rfl];simp only[go_sem,hk,hwk,a3,b1,num_ok];exact c3
theorem k15 (l:List Int) (p:Nat) (hp:p<=10000) (N:Nat) (hN:N<=20):∃ m n',MG m/\m.length<=N/\n'<=p+30000/\G3 15 [.ptr 0 0,.int .i64 N] [num l p]=some (.sl .no 8 (ens m),[num l n']):=by
 have hb:=nxt_bd l p ((N:Int)+1) (by omega);have h36:=f54 l p ((N:Int)+1) (by omega) (by omega) (by omega);have hc:(((nxt l p ((N:Int)+1)).toNat:Nat):Int)=nxt l p ((N:Int)+1):=by omega
 obtain⟨n',m,md,a1,a2,a4,a3⟩:=l15k l (nxt l p ((N:Int)+1)).toNat (p+1) [] .full MG.nil (by simp;omega) (by omega);rw[hc,ens_nil] at a3;refine⟨m,n',a1,by simp at a2;omega,by omega,?_⟩;have hw:IntKind.i64.wrap ((N:Int)+1)=(N:Int)+1:=w64 (by omega) (by omega);refine contract F15 rfl rfl rfl ?_;simp only[F15,go_sem,hw,h36,a3,num_ok]
theorem f31 (m:List En) (hl:m.length<=2000) (hB:∀ e∈m,BE e):G3 31 [.sl .no 8 (ens m)] []=some (.bool (okM m),[]):=up (k31 m hl hB) rfl
theorem k17n (m:List En) (hl:m.length<=2000) (hB:∀ e∈m,BE e) (q:Bs) (hq:q.length<=1000000) (t:Bool) (h:okM m=false\/phrF q=[]):G3 17 [.sl .no 8 (ens m),.str q,.bool t] []=some (.tup [.sl .no 3 [],.int .i64 1],[]):=by
 have a1:=f31 m hl hB;have a2:=dc16 q hq;refine contract F17 rfl rfl rfl ?_;cases ho:okM m with
 | false =>
  rw[ho] at a1;simp only[F17,go_sem,a1,a2,Bool.not_false]
 | true =>
  rcases h with h | h
  ·rw[ho] at h;cases h
  ·rw[ho] at a1
   rw[h,strs_nil] at a2;simp only[F17,go_sem,a1,a2,Bool.not_true,length_nil]
theorem k18 (P:LL):G3 18 [] P=some (.ptr P.length 0,P++[[.sl .full 9 []]]):=by
 refine contract F18 rfl rfl rfl ?_;simp only[F18,go_sem]
end Go.Av
namespace Go.Av
open Go.Nt
def occR (w:List (List UInt8)):Nat->List Tk->List (Int × Int)
 | _,[]=>[]
 | p,t :: T=>if cnt t.1=true/\(phr (t :: T)).take w.length=w then ((p:Int),(plcT p (t :: T)).getD (w.length - 1) 0+1) :: occR w (p+1) T else occR w (p+1) T
def occS (w:List (List UInt8)):List Int->List (List UInt8)->List (Int × Int)
 | p :: P,k :: K=>if (k :: K).take w.length=w then (p,(p :: P).getD (w.length - 1) 0+1) :: occS w P K else occS w P K
 | _,_=>[]
theorem occR_S (w:List (List UInt8)):∀ (T:List Tk) (p:Nat),occR w p T=occS w (plcT p T) (phr T)
 | [],p=>by simp [occR,plcT,phr,occS]
 | t :: T,p=>by
  have ih:=occR_S w T (p+1);simp only[occR];by_cases h:cnt t.1=true
  ·have e1:plcT p (t :: T)=(p:Int) :: plcT (p+1) T:=by simp only[plcT,h,if_true]
   rw[phr_yes h,e1];simp only[occS,h,true_and,ih]
  ·have e1:plcT p (t :: T)=plcT (p+1) T:=by simp only[plcT,h,if_false];simp
   rw[e1,phr_no (by simpa using h),if_neg (fun q=>h q.1)];exact ih
theorem occ_S (w:List (List UInt8)) (hw:1<=w.length) (P:List Int) (K:List (List UInt8)) (hPK:P.length=K.length):∀ (k i:Nat),K.length+1<=i+k->occ P K w k i=occS w (P.drop i) (K.drop i)
 | 0,i,h=>by
  have:K.drop i=[]:=drop_eq_nil_of_le (by omega)
  rw[this]
  cases P.drop i<;>simp [occ,occS]
 | k+1,i,h=>by
  have ih:=occ_S w hw P K hPK k (i+1) (by omega);simp only[occ];by_cases h1:i < K.length
  ·have dk:K.drop i=K[i] :: K.drop (i+1):=drop_eq_getElem_cons h1
   have dp:P.drop i=P[i] :: P.drop (i+1):=drop_eq_getElem_cons (by omega);have hs:(K.take (i+w.length)).drop i=(K.drop i).take w.length:=by
    rw[drop_take];congr 1;omega
   rw[hs,dp,dk];simp only[occS];rw[<- dk,<- dp];by_cases h2:(K.drop i).take w.length=w
   ·have h3:i+w.length<=K.length:=by
     have:=congrArg List.length h2
     simp at this;omega
    rw[if_pos h3,if_pos h2,if_pos h2,ih];have g1:P.getD i 0=P[i]:=by simp [getD_eq_getElem?_getD,(show i < P.length by omega)]
    have g2:(P.drop i).getD (w.length - 1) 0=P.getD (i+w.length - 1) 0:=by
     rw[getD_eq_getElem?_getD,getD_eq_getElem?_getD,getElem?_drop]
     congr 2;omega
    rw[g1,g2]
   ·rw[if_neg h2,if_neg h2,ih]
    split
    ·rfl
    ·rename_i h3
     have hz:∀ (a:List Int) (b:List (List UInt8)),b.length < w.length->occS w a b=[]:=by
      intro a
      induction a with
      | nil=>intro b _;cases b<;>rfl
      | cons x a iha =>
       intro b hb
       cases b with
       | nil=>rfl
       | cons y b =>
        simp only[occS];rw[if_neg (fun e=>by have:=congrArg List.length e;simp at this hb;omega)];exact iha b (by simp at hb;omega)
     exact (hz _ _ (by simp;omega)).symm
  ·have:K.drop i=[]:=drop_eq_nil_of_le (by omega)
   rw[this,if_neg (by omega)]
   cases P.drop i<;>rfl
theorem occF_R (w:List (List UInt8)) (hw:1<=w.length) (T:List Tk):occF w T=occR w 0 T:=by
 unfold occF;rw[if_neg (by omega),occ_S w hw _ _ (plcT_len T 0) _ 0 (by omega),drop_zero,drop_zero,occR_S]
end Go.Av
