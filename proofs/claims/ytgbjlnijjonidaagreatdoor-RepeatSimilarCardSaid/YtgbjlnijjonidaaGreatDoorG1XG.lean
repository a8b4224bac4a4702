/- The reference's surplus. No conditions. Distances and percentages. No conditions. The tokens of a fragment: the reference's and the program's; hits. No conditions. Made lists of valid fragments. No conditions. repeat.Similar: the most similar earlier fragment, or the first error. No conditions. The reference's Similar; equal lists of matches. No conditions. The law of the most similar earlier elements. No conditions. -/
import Derived.Test.YtgbjlnijjonidaaGreatDoorG1XF
import Derived.Test.YtgbjlnijjonidaaGreatDoorG1XA
import Derived.Test.YtgbjlnijjonidaaGreatDoorG1XE
import Derived.Test.YtgbjlnijjonidaaGreatDoorG1XB
open List
set_option linter.unusedSimpArgs false
set_option linter.unusedVariables false
set_option linter.unusedSectionVars false
set_option maxRecDepth 100000
set_option maxHeartbeats 16000000
namespace Go.Av
open Go.Nt
def cnk {κ:Type} [DecidableEq κ] (l:List κ) (x:κ):Nat:=l.count x
theorem HJ {κ:Type} [DecidableEq κ] (l m:List κ) (x:κ):cnk (l++m) x=cnk l x+cnk m x:=count_append
theorem yQ {κ:Type} [DecidableEq κ] (y x:κ):cnk [y] x=if y=x then 1 else 0:=by unfold cnk;rw[count_singleton];simp
theorem DN {κ:Type} [DecidableEq κ] (l:List κ) (x:κ):cnk l x<=l.length:=count_le_length
theorem rM {κ:Type} [DecidableEq κ] (l:List κ) (x:κ):cnk l x=0↔x ∉ l:=count_eq_zero
theorem QN {κ:Type} [DecidableEq κ] (a b:List κ) (x:κ):dfL a b x=dfN (cnk a x) (cnk b x):=rfl
theorem JV {κ:Type} [DecidableEq κ] (a b p l:List κ) (x:κ):tO a b p (x :: l)=(if x∈p\/x∈a then 0 else cnk b x)+tO a b (p++[x]) l:=rfl
theorem JW {κ:Type} [DecidableEq κ] (a b p l:List κ) (x:κ):qL a b p (x :: l)=(if x∈p then 0 else dfN (cnk a x) (cnk b x))+qL a b (p++[x]) l:=rfl
def kyP (t:Tk):Int × List UInt8:=(t.1,t.2.1)
def tms (l:List Tk) (t:Tk):Nat:=l.countP fun x=>smT x t
theorem sB (l:List Tk) (t:Tk):tms l t<=l.length:=countP_le_length
theorem N3 {l:List Tk} {i:Nat} {x:Tk} (h:l[i]?=some x) (t:Tk):tms (l.take (i+1)) t=tms (l.take i) t+(if smT x t=true then 1 else 0):=by
 unfold tms;rw[take_add_one,h];show List.countP _ (l.take i++[x])=_;rw[countP_append,countP_singleton]
theorem wY (l m:List Tk):tky (l++m)=tky l++tky m:=by unfold tky;rw[filter_append,map_append]
theorem wX (t:Tk):tky [t]=if tgT t=true then [kyP t] else []:=by
 unfold tky;by_cases h:tgT t=true
 ·rw[if_pos h];simp [h,kyP]
 ·rw[if_neg h];simp [h]
theorem tK (t:Tk) (l:List Tk):tky (t :: l)=(if tgT t=true then [kyP t] else [])++tky l:=by
 rw[<- wX,<- wY];rfl
theorem gG {t:Tk} (ht:tgT t=true):∀ l:List Tk,tms l t=cnk (tky l) (kyP t)
 | []=>rfl
 | x :: l=>by
  have ih:=gG ht l;unfold tms at ih ⊢;rw[countP_cons,ih,tK,HJ];by_cases e:smT x t=true
  ·obtain⟨e1,e2⟩:=xE.1 e
   have hx:tgT x=true:=by unfold tgT at ht ⊢;rw[e1];exact ht
   have hk:kyP x=kyP t:=by unfold kyP;rw[e1,e2]
   rw[if_pos e,if_pos hx,yQ,if_pos hk];omega
  ·rw[if_neg e]
   by_cases hx:tgT x=true
   ·rw[if_pos hx]
    have hk:kyP x≠kyP t:=fun z=>e (xE.2 (Prod.mk.inj z))
    rw[yQ,if_neg hk];omega
   ·rw[if_neg hx]
    show _=0+_;omega
theorem pD {κ:Type} [DecidableEq κ]:∀ (l acc:List κ),(lL acc l).length<=acc.length+l.length
 | [],acc=>by simp [lL]
 | x :: l,acc=>by
  rw[lL];split
  ·have:=pD l acc;simp;omega
  ·rename_i h
   have:=pD l (acc++[x]);simp at this ⊢;omega
theorem BA {α:Type} (f:α->Nat) (M:Nat):∀ (l:List α),(∀ x,f x<=M)->(l.map f).sum<=l.length*M
 | [],_=>by simp
 | x :: l,h=>by
  have:=BA f M l h
  have:=h x
  rw[map_cons,sum_cons,length_cons,Nat.succ_mul];omega
theorem nV (a b:List Tk) (ha:a.length<=5000) (hb:b.length<=5000):iM a b<=100000000:=by
 have k1:(tky a).length<=5000:=by unfold tky;rw[length_map];exact Nat.le_trans (length_filter_le _ _) ha
 have k2:(tky b).length<=5000:=by unfold tky;rw[length_map];exact Nat.le_trans (length_filter_le _ _) hb
 unfold iM oR;have h1:=pD (tky a++tky b) [];rw[length_append,length_nil] at h1
 have h2:=BA (dfL (tky a) (tky b)) 10000 (lL [] (tky a++tky b)) (fun x=>by
  have:=DN (tky a) x
  have:=DN (tky b) x
  rw[QN];unfold dfN
  omega)
 have h3:(lL [] (tky a++tky b)).length*10000<=10000*10000:=Nat.mul_le_mul_right _ (by omega);omega
theorem l69 (l:List Tk) (t:Tk) (hl:l.length<=100000):∀ (d i:Nat),i+d=l.length ->
  aC G0 yX (ST [(0,.sl .no 3 (tks l)),(3,.loc 3 0),(5,.int .i64 (tms (l.take i) t)),(8,.int .i64 l.length),(9,.int .i64 i)] [(3,some (tkR t))] [])
  =some (.ex 0,ST [(0,.sl .no 3 (tks l)),(3,.loc 3 0),(5,.int .i64 (tms l t)),(8,.int .i64 l.length),(9,.int .i64 l.length),(10,.bool false)] [(3,some (tkR t))] [])
 | 0,i,h=>by
  have:i=l.length:=by omega
  subst this;rw[aA (L:=yX) rfl,take_length];simp only[go_sem,Int.lt_irrefl]
 | d+1,i,h=>by
  have hi:i < l.length:=by omega
  have h0:(0:Int)<=(i:Int):=by omega
  have h1:(i:Int) < (l.length:Int):=by omega
  have hw:=wI (i:=i) (by omega)
  obtain⟨x,hg⟩:∃ x,l[i]?=some x:=⟨_,getElem?_eq_getElem hi⟩
  have hr:=bU hg;have g:=t80 x t;have ih:=l69 l t hl d (i+1) (by omega);have hb:=sB (l.take i) t;have hlt:(l.take i).length<=l.length:=by rw[length_take];omega
  rw[N3 hg t] at ih;rw[<- ih]
  conv=>lhs;rw[aA (L:=yX) rfl]
  obtain⟨k,s,n⟩:=x;obtain⟨k2,s2,n2⟩:=t;simp only[tkR] at g hr ⊢;by_cases e:smT (k,s,n) (k2,s2,n2)=true
  ·have hs:IntKind.i64.wrap (((tms (l.take i) (k2,s2,n2)):Int)+1)=((tms (l.take i) (k2,s2,n2)+1:Nat):Int):=by rw[w64 (by omega) (by omega)];rfl
   rw[e] at g;rw[if_pos e];simp only[go_sem,aE,h0,h1,hr,hw,g,hs]
  ·have e':smT (k,s,n) (k2,s2,n2)=false:=by simpa using e
   rw[e'] at g;rw[if_neg e,Nat.add_zero];simp only[go_sem,aE,h0,h1,hr,hw,g]
theorem t69 (l:List Tk) (t:Tk) (hl:l.length<=100000):G0 80 [.sl .no 3 (tks l),.agg (tkR t)] []=some (.int .i64 (tms l t),[]):=by
 have x:=l69 l t hl l.length 0 (by omega);have e0:((0:Nat):Int)=0:=rfl;have e1:((tms (l.take 0) t:Nat):Int)=0:=rfl;rw[e0,e1] at x;obtain⟨k,s,n⟩:=t;simp only[tkR] at x ⊢;refine aB F80 rfl rfl rfl ?_;simp only[F80,go_sem,aE,x]
theorem tI {l:List Tk} {i:Nat} {t:Tk} (h:l[i]?=some t):tky (l.take (i+1))=tky (l.take i)++(if tgT t=true then [kyP t] else []):=by
 rw[take_add_one,h,<- wX,<- wY];rfl
theorem tJ {l:List Tk} {i:Nat} {t:Tk} (h:l[i]?=some t):tky (l.drop i)=(if tgT t=true then [kyP t] else [])++tky (l.drop (i+1)):=by
 rw[lY h,tK]
theorem HH (x y:Nat):max ((x:Int) - (y:Int)) (-((x:Int) - (y:Int)))=((dfN x y:Nat):Int):=by unfold dfN;omega
theorem IY (a b:List Tk) (ha:a.length<=5000) (hb:b.length<=5000) (T:Nat) (hT:T<=1000000000):∀ (d i s:Nat),i+d=a.length->s+qL (tky a) (tky b) (tky (a.take i)) (tky (a.drop i))=T ->
  aC G0 y6 (ST [(0,.sl .no 3 (tks a)),(1,.sl .no 3 (tks b)),(5,.int .i64 s),(11,.sl .no 3 (tks a)),(12,.int .i64 a.length),(13,.int .i64 i)] [] [])
  =some (.ex 0,ST [(0,.sl .no 3 (tks a)),(1,.sl .no 3 (tks b)),(5,.int .i64 T),(11,.sl .no 3 (tks a)),(12,.int .i64 a.length),(13,.int .i64 a.length),(14,.bool false)] [] [])
 | 0,i,s,h,hs=>by
  have:i=a.length:=by omega
  subst this;rw[drop_length] at hs;have hs':s=T:=hs;rw[aA (L:=y6) rfl,hs'];simp only[go_sem,Int.lt_irrefl]
 | d+1,i,s,h,hs=>by
  have hi:i < a.length:=by omega
  have h0:(0:Int)<=(i:Int):=by omega
  have h1:(i:Int) < (a.length:Int):=by omega
  have hw:=wI (i:=i) (by omega)
  obtain⟨t,hg⟩:∃ t,a[i]?=some t:=⟨_,getElem?_eq_getElem hi⟩
  have hr:=bU hg;have g:=t68 t;have hsl:=nW a i (by omega);have gp:=t69 (a.take i) t (by rw[length_take];omega);have ga:=t69 a t (by omega);have gb:=t69 b t (by omega);have ih:=fun s hs=>IY a b ha hb T hT d (i+1) s (by omega) hs
  rw[tI hg] at ih;rw[tJ hg] at hs
  conv=>lhs;rw[aA (L:=y6) rfl]
  by_cases ht:tgT t=true
  ·rw[if_pos ht] at hs ih
   have hs:s+qL (tky a) (tky b) (tky (a.take i)) (kyP t :: tky (a.drop (i+1)))=T:=hs;rw[JW,<- gG ht,<- gG ht] at hs;rw[ht] at g;by_cases hm:kyP t∈tky (a.take i)
   ·rw[if_pos hm] at hs
    have hp:¬ (tms (a.take i) t:Int)=0:=by
     have:¬ cnk (tky (a.take i)) (kyP t)=0:=fun z=>(rM _ _).1 z hm
     rw[<- gG ht] at this;omega
    have ih2:=ih s (by omega);obtain⟨k1,s1,n1⟩:=t;simp only[tkR] at g hr gp ga gb;rw[<- ih2];simp only[go_sem,aE,h0,h1,hr,hw,g,hsl,gp,hp]
   ·rw[if_neg hm] at hs
    have hp:(tms (a.take i) t:Int)=0:=by
     have:cnk (tky (a.take i)) (kyP t)=0:=(rM _ _).2 hm
     rw[<- gG ht] at this;omega
    have b1:=sB a t;have b2:=sB b t;have hx:=HH (tms a t) (tms b t);obtain⟨X,hX,hX'⟩:∃ X,IntKind.i64.wrap ((tms a t:Int) - (tms b t:Int))=X/\(tms a t:Int) - (tms b t:Int)=X:=⟨_,w64 (by omega) (by omega),rfl⟩
    have hn:IntKind.i64.wrap (0 - X) = -X:=by rw[w64 (by omega) (by omega)];omega
    rw[hX'] at hx;have hsum:IntKind.i64.wrap ((s:Int)+((dfN (tms a t) (tms b t):Nat):Int))=((s+dfN (tms a t) (tms b t):Nat):Int):=by rw[w64 (by omega) (by omega)];rfl
    have ih2:=ih (s+dfN (tms a t) (tms b t)) (by omega);obtain⟨k1,s1,n1⟩:=t;simp only[tkR] at g hr gp ga gb;rw[hp] at gp;rw[<- ih2];simp only[go_sem,aE,h0,h1,hr,hw,g,hsl,gp,ga,gb,hX,hn,hx,hsum]
  ·rw[if_neg ht] at hs ih
   have ht':tgT t=false:=by simpa using ht
   rw[ht'] at g;rw[append_nil] at ih;have ih2:=ih s (by simpa using hs);obtain⟨k1,s1,n1⟩:=t;simp only[tkR] at g hr gp ga gb;rw[<- ih2];simp only[go_sem,aE,h0,h1,hr,hw,g]
theorem IX (a b:List Tk) (ha:a.length<=5000) (hb:b.length<=5000) (T:Nat) (hT:T<=1000000000):∀ (d i s:Nat),i+d=b.length->s+tO (tky a) (tky b) (tky (b.take i)) (tky (b.drop i))=T ->
  aC G0 y4 (ST [(0,.sl .no 3 (tks a)),(1,.sl .no 3 (tks b)),(5,.int .i64 s),(11,.sl .no 3 (tks a)),(12,.int .i64 a.length),(13,.int .i64 a.length),(14,.bool false),(42,.sl .no 3 (tks b)),(43,.int .i64 b.length),(44,.int .i64 i)] [] [])
  =some (.ex 2,ST [(0,.sl .no 3 (tks a)),(1,.sl .no 3 (tks b)),(5,.int .i64 T),(11,.sl .no 3 (tks a)),(12,.int .i64 a.length),(13,.int .i64 a.length),(14,.bool false),(42,.sl .no 3 (tks b)),(43,.int .i64 b.length),(44,.int .i64 b.length),(45,.bool false)] [] [])
 | 0,i,s,h,hs=>by
  have:i=b.length:=by omega
  subst this;rw[drop_length] at hs;have hs':s=T:=hs;rw[aA (L:=y4) rfl,hs'];simp only[go_sem,Int.lt_irrefl]
 | d+1,i,s,h,hs=>by
  have hi:i < b.length:=by omega
  have h0:(0:Int)<=(i:Int):=by omega
  have h1:(i:Int) < (b.length:Int):=by omega
  have hw:=wI (i:=i) (by omega)
  obtain⟨t,hg⟩:∃ t,b[i]?=some t:=⟨_,getElem?_eq_getElem hi⟩
  have hr:=bU hg;have g:=t68 t;have hsl:=nW b i (by omega);have gp:=t69 (b.take i) t (by rw[length_take];omega);have ga:=t69 a t (by omega);have gb:=t69 b t (by omega);have ih:=fun s hs=>IX a b ha hb T hT d (i+1) s (by omega) hs
  rw[tI hg] at ih;rw[tJ hg] at hs
  conv=>lhs;rw[aA (L:=y4) rfl]
  by_cases ht:tgT t=true
  ·rw[if_pos ht] at hs ih
   have hs:s+tO (tky a) (tky b) (tky (b.take i)) (kyP t :: tky (b.drop (i+1)))=T:=hs;rw[JV,<- gG ht] at hs;rw[ht] at g;by_cases hm:kyP t∈tky (b.take i)
   ·rw[if_pos (.inl hm)] at hs
    have hp:¬ (tms (b.take i) t:Int)=0:=by
     have:¬ cnk (tky (b.take i)) (kyP t)=0:=fun z=>(rM _ _).1 z hm
     rw[<- gG ht] at this;omega
    have ih2:=ih s (by omega);obtain⟨k1,s1,n1⟩:=t;simp only[tkR] at g hr gp ga gb;rw[<- ih2];simp only[go_sem,aE,h0,h1,hr,hw,g,hsl,gp,hp]
   ·have hp:(tms (b.take i) t:Int)=0:=by
     have:cnk (tky (b.take i)) (kyP t)=0:=(rM _ _).2 hm
     rw[<- gG ht] at this;omega
    by_cases hma:kyP t∈tky a
    ·rw[if_pos (.inr hma)] at hs
     have hp2:¬ (tms a t:Int)=0:=by
      have:¬ cnk (tky a) (kyP t)=0:=fun z=>(rM _ _).1 z hma
      rw[<- gG ht] at this;omega
     have ih2:=ih s (by omega);obtain⟨k1,s1,n1⟩:=t;simp only[tkR] at g hr gp ga gb;rw[hp] at gp;rw[<- ih2];simp only[go_sem,aE,h0,h1,hr,hw,g,hsl,gp,ga,hp2]
    ·rw[if_neg (fun z=>z.elim hm hma)] at hs
     have hp2:(tms a t:Int)=0:=by
      have:cnk (tky a) (kyP t)=0:=(rM _ _).2 hma
      rw[<- gG ht] at this;omega
     have b2:=sB b t;have hsum:IntKind.i64.wrap ((s:Int)+(tms b t:Int))=((s+tms b t:Nat):Int):=by rw[w64 (by omega) (by omega)];rfl
     have ih2:=ih (s+tms b t) (by omega);obtain⟨k1,s1,n1⟩:=t;simp only[tkR] at g hr gp ga gb;rw[hp] at gp;rw[hp2] at ga;rw[<- ih2];simp only[go_sem,aE,h0,h1,hr,hw,g,hsl,gp,ga,gb,hsum]
  ·rw[if_neg ht] at hs ih
   have ht':tgT t=false:=by simpa using ht
   rw[ht'] at g;rw[append_nil] at ih;have ih2:=ih s (by simpa using hs);obtain⟨k1,s1,n1⟩:=t;simp only[tkR] at g hr gp ga gb;rw[<- ih2];simp only[go_sem,aE,h0,h1,hr,hw,g]
theorem t43 (a b:List Tk) (ha:a.length<=5000) (hb:b.length<=5000):G0 61 [.sl .no 3 (tks a),.sl .no 3 (tks b)] []=some (.int .i64 (iM a b),[]):=by
 have hle:=nV a b ha hb;have hre:=EJ (tky a) (tky b);have hst:oR (tky a) (tky b)=iM a b:=rfl;rw[hst] at hre;have x1:=IY a b ha hb (qL (tky a) (tky b) [] (tky a)) (by omega) a.length 0 0 (by omega) (by rw[take_zero,drop_zero,Nat.zero_add];rfl);have x2:=IX a b ha hb (iM a b) (by omega) b.length 0 (qL (tky a) (tky b) [] (tky a)) (by omega) (by rw[take_zero,drop_zero];exact hre);have e0:((0:Nat):Int)=0:=rfl;rw[e0] at x1 x2;refine aB F61 rfl rfl rfl ?_;simp only[F61,go_sem,aE,x1,x2]
end Go.Av
namespace Go.Av
open Go.Nt
theorem t25 (a b:List Tk) (ha:a.length<=5000) (hb:b.length<=5000) (hat:∀ x∈a,x.2.1.length<=1000000) (hbt:∀ x∈b,x.2.1.length<=1000000):G0 40 [.sl .no 3 (tks a),.sl .no 3 (tks b)] []=some (.int .i64 (dst a b),[]):=by
 have g:=t42 a b ha hb hat hbt;rw[<- IF a b (Nat.zero_le _)] at g;have g2:=t43 a b ha hb;have hle:=nV a b ha hb;obtain⟨P,p1,p2⟩:=vL a b 0 0 (Nat.le_refl 0) (Nat.zero_le a.length);have e:=hZ (bwd a b 0) 0 (Nat.zero_le b.length);rw[if_pos (Nat.le_refl _)] at e;obtain⟨Q,q1,q2,_⟩:=xI (A6 a b 0 0 (Nat.zero_le _) rfl) (fN _ _ _) e;have e0:((0:Nat):Int)=0:=rfl;rw[e0] at p1 q1;have hbd:=qC a b 0 0 (by omega) (by omega);have hl:bwd a b 0 0=(lev cst aln a b:Int):=by unfold bwd;rw[drop_zero,drop_zero]
 have hm:IntKind.i64.wrap (2*(iM a b:Int))=2*(iM a b:Int):=w64 (by omega) (by omega);have hs:IntKind.i64.wrap (bwd a b 0 0+2*(iM a b:Int))=((dst a b:Nat):Int):=by
  rw[w64 (by omega) (by omega),hl];unfold dst;omega
 generalize tbS a b 0 0=S at g p2 q2;refine aB F40 rfl rfl rfl ?_;simp only[F40,go_sem,g,g2,p1,p2,q1,q2,hm,hs]
theorem DE (a b:List Tk) (ha:a.length<=5000) (hb:b.length<=5000):dst a b<=1000000000:=by
 have h1:=nV a b ha hb;have h2:=pJ _ a b (Nat.le_refl _);unfold dst;omega
theorem t22 (a b:List Tk) (ha:a.length<=5000) (hb:b.length<=5000) (hat:∀ x∈a,x.2.1.length<=1000000) (hbt:∀ x∈b,x.2.1.length<=1000000):G0 21 [.sl .no 3 (tks a),.sl .no 3 (tks b)] []=some (.int .i64 (prT a b),[]):=by
 have g:=t37 a b (by omega) (by omega);have g2:=t38 a b ha hb hat hbt (by have:=nV a b ha hb;omega);have h1:=kA a;have h2:=kA b;have h3:=DE a b ha hb;have hp:prT a b=prc (max (ttl a) (ttl b)) (dst a b):=rfl;rw[hp];generalize hM:max (ttl a) (ttl b)=M at g ⊢;by_cases hz:M=0
 ·subst hz
  have e:((0:Nat):Int)=0:=rfl;rw[e] at g;have e2:prc 0 (dst a b)=100:=rfl;rw[e2];refine aB F21 rfl rfl rfl ?_;simp only[F21,go_sem,g]
 ·have hq:=O2 M (dst a b) hz
  have hM0:¬ (M:Int)=0:=by omega
  have hb:=KF M (dst a b);obtain⟨X,hX,hX'⟩:∃ X,IntKind.i64.wrap ((M:Int) - (dst a b:Int))=X/\(M:Int) - (dst a b:Int)=X:=⟨_,w64 (by omega) (by omega),rfl⟩
  rw[hX'] at hq;have hm:IntKind.i64.wrap (100*max X 0)=100*max X 0:=w64 (by omega) (by omega);have hw:IntKind.i64.wrap ((100*max X 0).tdiv (M:Int))=prc M (dst a b):=by rw[hq,w64 (by omega) (by omega)]
  refine aB F21 rfl rfl rfl ?_;simp only[F21,go_sem,g,g2,hM0,hX,hm,hw]
theorem t10 (a b:List Tk) (ha:a.length<=5000) (hb:b.length<=5000) (hat:∀ x∈a,x.2.1.length<=1000000) (hbt:∀ x∈b,x.2.1.length<=1000000):G0 23 [.sl .no 3 (tks a),.sl .no 3 (tks b)] []=some (.int .i64 (prT a b),[]):=by
 have g:=t24 a b (by omega) (by omega);have g2:=t25 a b ha hb hat hbt;have h1:=kA a;have h2:=kA b;have h3:=DE a b ha hb;have hp:prT a b=prc (max (ttl a) (ttl b)) (dst a b):=rfl;rw[hp];generalize hM:max (ttl a) (ttl b)=M at g ⊢;by_cases hz:M=0
 ·subst hz
  have e:((0:Nat):Int)=0:=rfl;rw[e] at g;have e2:prc 0 (dst a b)=100:=rfl;rw[e2];refine aB F23 rfl rfl rfl ?_;simp only[F23,go_sem,g]
 ·have hq:=OZ M (dst a b) hz
  have hM0:¬ (M:Int)=0:=by omega
  obtain⟨X,hX,hX'⟩:∃ X,IntKind.i64.wrap ((M:Int) - (dst a b:Int))=X/\(M:Int) - (dst a b:Int)=X:=⟨_,w64 (by omega) (by omega),rfl⟩
  rw[hX'] at hq;have hm:IntKind.i64.wrap (100*X)=100*X:=w64 (by omega) (by omega);have hw:IntKind.i64.wrap ((100*X).tdiv (M:Int))=(100*X).tdiv (M:Int):=by
   have hM1:(1:Int)<=(M:Int):=by omega
   have hX1:-1000000000<=X/\X<=1000000000:=by omega
   have hab:((100*X).tdiv (M:Int)).natAbs=(100*X).natAbs / (M:Int).natAbs:=Int.natAbs_tdiv (100*X) (M:Int);have hle:(100*X).natAbs / (M:Int).natAbs<=(100*X).natAbs:=Nat.div_le_self _ _;rw[<- hab] at hle;generalize (100*X).tdiv (M:Int)=Y at hle;exact w64 (by omega) (by omega)
  refine aB F23 rfl rfl rfl ?_;simp only[F23,go_sem,g,g2,hM0,hX,hm,hw,hq]
end Go.Av
namespace Go.Av
open Go.Nt
theorem HZ {s:List UInt8} (h:1<=s.length):(s != [])=true:=by
 cases s with
 | nil=>simp at h
 | cons a l=>rfl
theorem l3:∀ (k:Nat) (s:List UInt8),(l4 k s).length<=s.length/\∀ t∈l4 k s,t.2.1.length<=s.length
 | 0,s=>by simp [l4]
 | k+1,s=>by
  simp only[l4];split
  ·rename_i h
   have hn:=CF s h;have ih:=l3 k (s.drop (nxN s));simp only[length_drop] at ih;refine⟨by simp only[length_cons];omega,fun t ht=>?_⟩;simp only[mem_cons] at ht;rcases ht with ht | ht
   ·subst ht;simp;omega
   ·have:=ih.2 t ht;omega
  ·simp
theorem wU {f:List Tk}:∀ t∈f,t.2.1.length<=tot f:=by
 induction f with
 | nil=>intro t ht;cases ht
 | cons a f ih =>
  intro t ht;rw[cC];rcases mem_cons.1 ht with rfl | h
  ·omega
  ·have:=ih t h;omega
def tkT (t:Tk):List Tk:=if t.1=1 then s8 t.2.1 else if t.1=2\/t.1=3\/t.1=4\/t.1=5 then [t] else []
def dM:List Tk->List Tk
 | []=>[]
 | t :: l=>tkT t++dM l
theorem EF (t:Tk):(tkT t).length<=t.2.1.length+1/\∀ x∈tkT t,x.2.1.length<=t.2.1.length:=by
 unfold tkT;split
 ·have h:=l3 t.2.1.length t.2.1
  exact⟨by unfold s8;omega,h.2⟩
 ·split
  ·exact⟨by simp,fun x hx=>by rw[mem_singleton.1 hx];exact Nat.le_refl _⟩
  ·exact⟨by simp,fun x hx=>by cases hx⟩
theorem kW:∀ f:List Tk,(dM f).length<=tot f+f.length/\∀ x∈dM f,x.2.1.length<=tot f
 | []=>⟨by simp [dM,tot],fun x hx=>by cases hx⟩
 | t :: l=>by
  have h1:=EF t;have h2:=kW l;have h3:=cC t l;refine⟨by simp only[dM,length_append,length_cons];omega,fun x hx=>?_⟩;simp only[dM] at hx;rcases mem_append.1 hx with q | q
  ·have:=h1.2 x q;omega
  ·have:=h2.2 x q;omega
theorem N5 (s:Bs) (n:Int):tkT (1,s,n)=s8 s:=rfl
theorem N4 (a:Int) (s:Bs) (n:Int) (h:a=2\/a=3\/a=4\/a=5):tkT (a,s,n)=[(a,s,n)]:=by
 unfold tkT;rw[if_neg (show ¬ a=1 by omega),if_pos h]
theorem N6 (a:Int) (s:Bs) (n:Int) (h1:¬ a=1) (h:¬ (a=2\/a=3\/a=4\/a=5)):tkT (a,s,n)=[]:=by
 unfold tkT;rw[if_neg h1,if_neg h]
theorem GR (f:List Tk) (hf:f.length<=600) (ht:∀ t∈f,t.2.1.length<=1000000):∀ (k i:Nat) (md:Own) (out:List Tk),md≠.no->i+k=f.length->out.length+(dM (f.drop i)).length<=1000000 ->
  ∃ md',aC G0 rY (ST [(3,.sl md 3 (tks out)),(6,.sl .no 3 (tks f)),(7,.int .i64 f.length),(8,.int .i64 i)] [] [])=some (.ex 0,ST [(3,.sl md' 3 (tks (out++dM (f.drop i)))),(6,.sl .no 3 (tks f)),(7,.int .i64 f.length),(8,.int .i64 f.length),(9,.bool false)] [] [])
 | 0,i,md,out,hm,h1,h2=>by
  have:i=f.length:=by omega
  subst this;refine⟨md,?_⟩;rw[aA (L:=rY) rfl];simp only[go_sem,Int.lt_irrefl,drop_length,dM,append_nil]
 | k+1,i,md,out,hm,h1,h2=>by
  have h3:i < f.length:=by omega
  have h4:(i:Int) < (f.length:Int):=by omega
  have h0:(0:Int)<=(i:Int):=by omega
  have hw:=wI (i:=i) (by omega)
  have hg:f[i]?=some f[i]:=getElem?_eq_getElem h3;have hd:f.drop i=f[i] :: f.drop (i+1):=drop_eq_getElem_cons h3;have hl:=ht _ (getElem_mem h3);obtain⟨a,s,n,hq⟩:∃ a s n,f[i]=(a,s,n):=⟨_,_,_,rfl⟩
  rw[hq] at hg hd hl;have hr:=bU hg;rw[hd] at h2 ⊢;simp only[dM,length_append] at h2 ⊢;by_cases c1:a=1
  ·subst c1
   rw[N5] at h2 ⊢;obtain⟨md',ih⟩:=GR f hf ht k (i+1) .own (out++s8 s) (by decide) (by omega) (by simp;omega);refine⟨md',?_⟩;rw[append_assoc] at ih;have ha:cK 32 (out.length+(s8 s).length)=true:=bD (by decide) (by omega);rw[aA (L:=rY) rfl];simp only[go_sem,h4,h0,hw,hr,VN s hl,bH md .no hm 3 32 (by decide),aE,ha,dN];exact ih
  ·by_cases c2:a=2\/a=3\/a=4\/a=5
   ·rw[N4 _ _ _ c2] at h2 ⊢
    obtain⟨md',ih⟩:=GR f hf ht k (i+1) .own (out++[(a,s,n)]) (by decide) (by omega) (by simp at h2 ⊢;omega);refine⟨md',?_⟩;rw[append_assoc] at ih;have ha:cK 32 (out.length+1)=true:=bD (by decide) (by simp at h2;omega);rcases c2 with q | q | q | q
    all_goals
     subst q;rw[aA (L:=rY) rfl];simp only[go_sem,h4,h0,hw,hr,Int.reduceEq,bH md _ hm 3 32 (by decide),aE,ha,g7,dN];exact ih
   ·rw[N6 _ _ _ c1 c2] at h2 ⊢
    obtain⟨md',ih⟩:=GR f hf ht k (i+1) md out hm (by omega) (by simpa using h2);refine⟨md',?_⟩;have e2:¬ a=2:=fun q=>c2 (.inl q)
    have e3:¬ a=3:=fun q=>c2 (.inr (.inl q))
    have e4:¬ a=4:=fun q=>c2 (.inr (.inr (.inl q)))
    have e5:¬ a=5:=fun q=>c2 (.inr (.inr (.inr q)))
    rw[aA (L:=rY) rfl];simp only[go_sem,h4,h0,hw,hr,c1,e2,e3,e4,e5,nil_append];exact ih
theorem k11 (f:List Tk) (hf:f.length<=600) (ht:tot f<=50000):G0 24 [.sl .no 3 (tks f)] []=some (.sl .no 3 (tks (dM f)),[]):=by
 have hb:=kW f;obtain⟨md',hx⟩:=GR f hf (fun t h=>by have:=wU t h;omega) f.length 0 .full [] (by decide) (by omega) (by simp;omega);rw[drop_zero,nil_append] at hx;simp only[go_sem,dZ] at hx;refine aB F24 rfl rfl rfl ?_;simp only[F24,go_sem,aE,hx]
theorem P4 (x:LL) (N i:Int):∀ (k:Nat) (s:List UInt8) (md:Own) (out:List Tk),md≠.no->s.length<=k->s.length<=1000000->out.length+s.length<=2000000 ->
  ∃ md',md'≠.no/\aC G0 vI (ST [(3,.sl md 3 (tks out)),(6,.str s),(9,.sl .no 3 x),(10,.int .i64 N),(11,.int .i64 i),(12,.bool true),(17,.bool false),(26,.bool true)] [] [])=some (.ex 3,ST [(3,.sl md' 3 (tks (out++l4 k s))),(6,.str []),(9,.sl .no 3 x),(10,.int .i64 N),(11,.int .i64 i),(12,.bool true),(17,.bool false),(26,.bool true),(31,.bool false)] [] [])
 | 0,s,md,out,hm,h1,_,h2=>by
  have:s=[]:=eq_nil_of_length_eq_zero (by omega)
  subst this;refine⟨md,hm,?_⟩;rw[aA (L:=vI) rfl];simp only[go_sem,l4,Int.lt_irrefl]
 | k+1,s,md,out,hm,h1,hs,h2=>by
  by_cases h3:1<=s.length
  ·have hn:=CF s h3
   obtain⟨md',hm',ih⟩:=P4 x N i k (s.drop (nxN s)) .own (out++[(nxK s,s.take (nxN s),0)]) (by decide) (by simp;omega) (by simp;omega) (by simp;omega);have h6:(0:Int)<=(nxN s:Int):=by omega
   have h7:(nxN s:Int)<=(s.length:Int):=by omega
   have ha:cK 32 (out.length+1)=true:=bD (by decide) (by omega);refine⟨md',hm',?_⟩;rw[aA (L:=vI) rfl];simp only[l4,h3,if_true];rw[append_assoc] at ih;simp only[go_sem,HZ h3,VK s hs h3,h6,h7,bH md _ hm 3 32 (by decide),aE,ha,g7,dN];exact ih
  ·have:s=[]:=eq_nil_of_length_eq_zero (by omega)
   subst this;refine⟨md,hm,?_⟩;rw[aA (L:=vI) rfl];simp only[go_sem,l4,Int.lt_irrefl]
theorem GQ (f:List Tk) (hf:f.length<=600) (ht:∀ t∈f,t.2.1.length<=1000000):∀ (k i:Nat) (md:Own) (out:List Tk),md≠.no->i+k=f.length->out.length+(tot (f.drop i)+(f.drop i).length)<=1000000 ->
  ∃ md',aC G0 rZ (ST [(3,.sl md 3 (tks out)),(9,.sl .no 3 (tks f)),(10,.int .i64 f.length),(11,.int .i64 i)] [] [])=some (.ex 0,ST [(3,.sl md' 3 (tks (out++dM (f.drop i)))),(9,.sl .no 3 (tks f)),(10,.int .i64 f.length),(11,.int .i64 f.length),(12,.bool false)] [] [])
 | 0,i,md,out,hm,h1,h2=>by
  have:i=f.length:=by omega
  subst this;refine⟨md,?_⟩;rw[aA (L:=rZ) rfl];simp only[go_sem,Int.lt_irrefl,drop_length,dM,append_nil]
 | k+1,i,md,out,hm,h1,h2=>by
  have h3:i < f.length:=by omega
  have h4:(i:Int) < (f.length:Int):=by omega
  have h0:(0:Int)<=(i:Int):=by omega
  have hw:=wI (i:=i) (by omega)
  have hg:f[i]?=some f[i]:=getElem?_eq_getElem h3;have hd:f.drop i=f[i] :: f.drop (i+1):=drop_eq_getElem_cons h3;have hl:=ht _ (getElem_mem h3);obtain⟨a,s,n,hq⟩:∃ a s n,f[i]=(a,s,n):=⟨_,_,_,rfl⟩
  rw[hq] at hg hd hl;have hr:=bU hg;have hb:=kW (f.drop (i+1));rw[hd] at h2 ⊢;rw[cC,length_cons] at h2;simp only[dM] at h2 ⊢;by_cases c1:a=1
  ·subst c1
   rw[N5];have hc:=l3 s.length s;obtain⟨md1,hm1,hx⟩:=P4 (tks f) f.length i s.length s md out hm (by omega) hl (by omega);obtain⟨md',ih⟩:=GQ f hf ht k (i+1) md1 (out++s8 s) hm1 (by omega) (by simp only[length_append,s8];omega);refine⟨md',?_⟩;rw[append_assoc] at ih;rw[aA (L:=rZ) rfl];simp only[go_sem,h4,h0,hw,hr,hx];exact ih
  ·by_cases c2:a=2\/a=3\/a=4\/a=5
   ·rw[N4 _ _ _ c2]
    obtain⟨md',ih⟩:=GQ f hf ht k (i+1) .own (out++[(a,s,n)]) (by decide) (by omega) (by simp only[length_append,length_singleton];omega);refine⟨md',?_⟩;rw[append_assoc] at ih;have ha:cK 32 (out.length+1)=true:=bD (by decide) (by omega);rcases c2 with q | q | q | q
    all_goals
     subst q;rw[aA (L:=rZ) rfl];simp only[go_sem,h4,h0,hw,hr,Int.reduceEq,bH md _ hm 3 32 (by decide),aE,ha,g7,dN];exact ih
   ·rw[N6 _ _ _ c1 c2]
    obtain⟨md',ih⟩:=GQ f hf ht k (i+1) md out hm (by omega) (by omega);refine⟨md',?_⟩;have e2:¬ a=2:=fun q=>c2 (.inl q)
    have e3:¬ a=3:=fun q=>c2 (.inr (.inl q))
    have e4:¬ a=4:=fun q=>c2 (.inr (.inr (.inl q)))
    have e5:¬ a=5:=fun q=>c2 (.inr (.inr (.inr q)))
    rw[aA (L:=rZ) rfl];simp only[go_sem,h4,h0,hw,hr,c1,e2,e3,e4,e5,nil_append];exact ih
theorem k21 (f:List Tk) (hf:f.length<=600) (ht:tot f<=50000):G0 20 [.sl .no 3 (tks f)] []=some (.sl .no 3 (tks (dM f)),[]):=by
 obtain⟨md',hx⟩:=GQ f hf (fun t h=>by have:=wU t h;omega) f.length 0 .full [] (by decide) (by omega) (by simp;omega);rw[drop_zero,nil_append] at hx;simp only[go_sem,dZ] at hx;refine aB F20 rfl rfl rfl ?_;simp only[F20,go_sem,aE,hx]
end Go.Av
namespace Go.Av
open Go.Nt
def Sg (t:Nat) (f:List Tk):Prop:=(f.length<=10+t/\tot f<=150+4*t)/\GV f
theorem Sg.mono {t t':Nat} {f:List Tk} (h:Sg t f) (ht:t<=t'):Sg t' f:=⟨⟨by have:=h.1.1;omega,by have:=h.1.2;omega⟩,h.2⟩
theorem l6g (l:List Int):∀ (k p:Nat) (L:List (List Tk)) (v:AV) (R:LL),OSt v R L->(∀ f∈L,Sg L.length f)->k+L.length<=8->p<=2000*L.length+10 ->
  ∃ v' R' L' p',OSt v' R' L'/\(∀ f∈L',Sg 8 f)/\L'.length<=8/\aC G0 tG (ST [(2,.bool false),(7,.ptr 0 0),(8,v),(9,.int .i64 k)] [] (num l p :: R))=some (.ex 0,ST [(2,.bool false),(7,.ptr 0 0),(8,v'),(9,.int .i64 0),(19,.bool false)] [] (num l p' :: R'))
 | 0,p,L,v,R,hst,hs,hk,hp=>by
  refine⟨v,R,L,p,hst,fun f hf=>(hs f hf).mono (by omega),by omega,?_⟩;have hs1:=hst.scrub;rw[aA (L:=tG) rfl];simp only[go_sem,hs1,Int.lt_irrefl]
 | k+1,p,L,v,R,hst,hs,hk,hp=>by
  have hs0:=hst.scrub;have hd0:=hst.dem;have hlen:=hst.len;have hR:=hst.rok;have hk0:(0:Int) < ((k+1:Nat):Int):=by omega
  have hwk:IntKind.i64.wrap (((k+1:Nat):Int) - 1)=(k:Int):=by rw[w64 (by omega) (by omega)];omega
  obtain⟨p1,f0,b1,b2,b3,b4,h42⟩:=VS hR l p (by omega) 4 (by decide) (by decide);have fin:∀ (f:List Tk) (p':Nat),Sg (L.length+1) f->p'<=2000*(L.length+1)+10->∃ v1 R1,OSt v1 R1 (L++[f])/\gE 1 24 (num l p' :: R) (some [[.sl .no 3 (tks f)]]) v=some (v1,num l p' :: R1) /\
   ∃ v' R' L' p'',OSt v' R' L'/\(∀ f∈L',Sg 8 f)/\L'.length<=8/\aC G0 tG (ST [(2,.bool false),(7,.ptr 0 0),(8,v1),(9,.int .i64 k)] [] (num l p' :: R1))=some (.ex 0,ST [(2,.bool false),(7,.ptr 0 0),(8,v'),(9,.int .i64 0),(19,.bool false)] [] (num l p'' :: R')):=by
   intro f p' hf hp';obtain⟨v1,R1,q1,q2⟩:=V0 hst f (by omega) l p';refine⟨v1,R1,q1,q2,?_⟩
   exact l6g l k p' (L++[f]) v1 R1 q1 (fun g hg=>by
    rw[length_append,length_singleton];rcases mem_append.1 hg with q | q
    ·exact (hs g q).mono (by omega)
    ·simp only[mem_singleton] at q;subst q;exact hf) (by rw[length_append,length_singleton];omega) (by rw[length_append,length_singleton];omega)
  have z0:Sg (L.length+1) f0:=⟨⟨by omega,by omega⟩,P9 b4 (by omega)⟩
  by_cases hL:L.length=0
  ·have hl0:¬ (0:Int) < (L.length:Int):=by omega
   obtain⟨v1,R1,q1,q2,v',R',L',p'',i1,i2,i3,i4⟩:=fin f0 p1 z0 (by omega);have hs1:=q1.scrub;have hd1:=q1.dem;refine⟨v',R',L',p'',i1,i2,i3,?_⟩;rw[aA (L:=tG) rfl];simp only[go_sem,hk0,hs0,hd0,hlen,hl0,h42,CK,q2,hs1,hd1,hwk];exact i4
  ·have hl0:(0:Int) < (L.length:Int):=by omega
   have h41:=m6 hR l p1 2 (by omega) (by decide) (by decide);by_cases hy:nxt l p1 2=0
   ·have h41b:=m6 hR l (p1+1) (L.length:Int) (by omega) (by omega) (by omega)
    have hj:=gL l (p1+1) (L.length:Int) (by omega);generalize nxt l (p1+1) (L.length:Int)=j at h41b hj;obtain⟨jn,rfl⟩:=Int.eq_ofNat_of_zero_le hj.1;have hjl:jn < L.length:=by omega
    have hg:L[jn]?=some L[jn]:=getElem?_eq_getElem hjl;have hfs:=hs _ (getElem_mem hjl);generalize L[jn]=f at hg hfs;have hr:=LK hg;have h41c:=m6 hR l (p1+1+1) 3 (by omega) (by decide) (by decide);have hz:=gL l (p1+1+1) 3 (by decide);generalize nxt l (p1+1+1) 3=z at h41c hz;obtain⟨_,d,hvd,hRd⟩:1<=L.length/\∃ d:Nat,v=.ss (d+1) 0 L.length 1/\R=List.replicate d bJ++[frc L]:=by
     rcases hst with ⟨rfl,_,_⟩ | h
     ·exact absurd rfl hL
     ·exact h
    have hia:iaK 1 v (.int .i64 (jn:Int))=some (.ptr (d+1) jn):=by
     rw[hvd,sW,if_pos (by omega),Int.toNat_natCast];simp
    have hat:∀ x:List AV,(x :: R)[d+1]?=some (frc L):=fun x=>by rw[hRd];exact vV d x (frc L)
    obtain⟨⟨s1,s2⟩,s3⟩:=hfs;have c0:z=0\/z=1\/z=2:=by omega
    rcases c0 with rfl | rfl | rfl
    ·have h44:=c44 f (by omega)
     have hnl:=pB f;have h43:=c43 f (by omega) (by omega) (cL f) [9,4,6,2,8,3] (by omega) (by decide);obtain⟨t1,t2⟩:=nY (cL f) [9,4,6,2,8,3] f;obtain⟨t3,t4⟩:=CG (fO (cL f) [9,4,6,2,8,3] f);have hgv:=LD s3;generalize nrm (fO (cL f) [9,4,6,2,8,3] f)=g at h43 t3 t4 hgv;obtain⟨v1,R1,q1,q2,v',R',L',p'',i1,i2,i3,i4⟩:=fin g (p1+1+1+1) ⟨⟨by omega,by omega⟩,hgv⟩ (by omega);have hs1:=q1.scrub;have hd1:=q1.dem;refine⟨v',R',L',p'',i1,i2,i3,?_⟩;rw[aA (L:=tG) rfl];simp only[go_sem,hk0,hs0,hd0,hlen,hl0,h42,h41,hy,h41b,hia,hat,hr,h41c,h44,UM,h43,CK,q2,hs1,hd1,hwk];exact i4
    ·have h37:=c37 f [(1,[32,99,97,114],0)] (by simp;omega) (by simp [tot];simp [tot] at s2;omega)
     have et:tks [(1,[32,99,97,114],0)]=[[.int .i64 1,.str [32,99,97,114],.int .i64 0]]:=rfl;rw[et] at h37;obtain⟨t3,t4⟩:=CG (f++[(1,[32,99,97,114],0)]);rw[length_append,length_singleton] at t3;rw[dY,cC,dL] at t4;simp only[length_cons,length_nil] at t4;have hgv:=LE s3 (1,[32,99,97,114],0) rfl;generalize nrm (f++[(1,[32,99,97,114],0)])=g at h37 t3 t4 hgv;obtain⟨v1,R1,q1,q2,v',R',L',p'',i1,i2,i3,i4⟩:=fin g (p1+1+1+1) ⟨⟨by omega,by omega⟩,hgv⟩ (by omega);have hs1:=q1.scrub;have hd1:=q1.dem;refine⟨v',R',L',p'',i1,i2,i3,?_⟩;rw[aA (L:=tG) rfl];simp only[go_sem,hk0,hs0,hd0,hlen,hl0,h42,h41,hy,h41b,hia,hat,hr,h41c,h37,CK,q2,hs1,hd1,hwk];exact i4
    ·obtain⟨v1,R1,q1,q2,v',R',L',p'',i1,i2,i3,i4⟩:=fin f (p1+1+1+1) ⟨⟨by omega,by omega⟩,s3⟩ (by omega)
     have hs1:=q1.scrub;have hd1:=q1.dem;refine⟨v',R',L',p'',i1,i2,i3,?_⟩;rw[aA (L:=tG) rfl];simp only[go_sem,hk0,hs0,hd0,hlen,hl0,h42,h41,hy,h41b,hia,hat,hr,h41c,CK,q2,hs1,hd1,hwk];exact i4
   ·obtain⟨v1,R1,q1,q2,v',R',L',p'',i1,i2,i3,i4⟩:=fin f0 (p1+1) z0 (by omega)
    have hs1:=q1.scrub;have hd1:=q1.dem;refine⟨v',R',L',p'',i1,i2,i3,?_⟩;rw[aA (L:=tG) rfl];simp only[go_sem,hk0,hs0,hd0,hlen,hl0,h42,h41,hy,CK,q2,hs1,hd1,hwk];exact i4
theorem rK:∀ L:List (List Tk),(frc L).all (fun x=>a8 (aH x))=true
 | []=>rfl
 | a :: L=>by
  show (a8 _ && (frc L).all _)=true;rw[rK L];rfl
theorem G6 (L:List (List Tk)):(frc L).map aH=frc L:=by
 unfold frc;rw[map_map];rfl
theorem oZ:∀ c:List AV,cH 1 c.length c=c.map fun x=>[x]
 | []=>rfl
 | a :: c=>by
  show [a] :: cH 1 c.length c=_;rw[oZ c];rfl
theorem DA (L:List (List Tk)):cN 0 L.length 1 (frc L)=some (frs L):=by
 have e1:((frc L).drop 0).take (L.length*1)=frc L:=by rw[drop_zero,Nat.mul_one,take_of_length_le (by rw[oE];exact Nat.le_refl _)]
 unfold cN;rw[e1,if_pos ⟨by decide,by rw[oE];omega,rK L⟩,G6,<- oE L,oZ];unfold frc frs;rw[map_map];rfl
theorem k6 (l:List Int) (N:Int) (hN:1<=N) (hN7:N<=8):∃ L,(∀ f∈L,Sg 8 f)/\L.length<=8/\G0 7 [.sl .no 1 (bC l),.int .i64 N,.bool false] []=some (.sl .no 1 (frs L),[]):=by
 have h41:=m6 H5 l 0 (N+1) (by omega) (by omega) (by omega);have hb:=gL l 0 (N+1) (by omega);have hc:(((nxt l 0 (N+1)).toNat:Nat):Int)=nxt l 0 (N+1):=by omega
 obtain⟨v,R,L,p,q1,q2,q3,q4⟩:=l6g l (nxt l 0 (N+1)).toNat 1 [] (.sl .full 1 []) [] (.inl ⟨rfl,rfl,rfl⟩) (by simp) (by simp;omega) (by simp);rw[hc] at q4;refine⟨L,q2,q3,?_⟩;have hw:IntKind.i64.wrap (N+1)=N+1:=w64 (by omega) (by omega);have hs1:=q1.scrub;have hd1:=q1.dem;have e:num l 0=[.sl .no 1 (bC l),.int .i64 0]:=rfl;rw[e] at h41;refine aB F7 rfl rfl rfl ?_;simp only[F7,go_sem,hw,h41,q4,hs1,hd1];rcases q1 with ⟨rfl,rfl,rfl⟩ | ⟨_,d,rfl,rfl⟩
 ·simp only[go_sem]
  rfl
 ·have hsn:fZ false [] (num l p :: (List.replicate d bJ++[frc L])) (.ss (d+1) 0 L.length 1)=some (.sl .no 1 (frs L)):=by
   have hat:=vV d (num l p) (frc L);generalize num l p :: (List.replicate d bJ++[frc L])=A at hat;show (if 0<=d+1/\cZ [] A=true then jV A (.ss (d+1) 0 L.length 1) else none)=_;rw[if_pos ⟨by omega,rfl⟩];show (A[d+1]?).bind (fun cells=>(cN 0 L.length 1 cells).map fun l=>AV.sl .no 1 l)=_;rw[hat,Option.bind_some,DA];rfl
  simp only[go_sem,hsn]
end Go.Av
namespace Go.Av
open Go.Nt
theorem EE (t:Tk):(tkT t).length<=wid t:=by
 unfold tkT wid;split
 ·exact (l3 t.2.1.length t.2.1).1
 ·split<;>simp
theorem tH:∀ f:List Tk,(dM f).length<=len f
 | []=>by simp [dM]
 | t :: l=>by
  have h1:=EE t;have h2:=tH l;rw[lQ];simp only[dM,length_append];omega
theorem oP {f:List Tk} (h:vld f=0):(dM f).length<=5000/\(∀ x∈dM f,x.2.1.length<=1000000)/\f.length<=600/\tot f<=50000:=by
 obtain⟨h1,h2,h3⟩:=(fE f).1 h;obtain⟨h4,h5⟩:=nU h;have h6:=tH f;refine⟨by omega,fun x hx=>?_,by omega,by omega⟩
 have:=(kW f).2 x hx
 omega
def fW:List (List Tk)->Int
 | []=>0
 | f :: l=>if vld f=0 then fW l else vld f
theorem tC:∀ {L:List (List Tk)},fW L=0->∀ f∈L,vld f=0
 | [],_,f,hf=>by cases hf
 | g :: l,h,f,hf=>by
  unfold fW at h;by_cases q:vld g=0
  ·rw[if_pos q] at h
   rcases mem_cons.1 hf with rfl | hf
   ·exact q
   ·exact tC h f hf
  ·rw[if_neg q] at h;exact absurd h q
def iK (L:List (List Tk)):List (List Tk):=L.map dM
theorem AZ (L:List (List Tk)):(iK L).length=L.length:=by simp [iK]
theorem wV {L:List (List Tk)} {i:Nat} {f:List Tk} (h:L[i]?=some f):(iK L)[i]?=some (dM f):=by simp [iK,h]
theorem zK {L:List (List Tk)} {i:Nat} {f:List Tk} (h:L[i]?=some f):iK (L.take (i+1))=iK (L.take i)++[dM f]:=by
 unfold iK;rw[take_add_one,h];simp
theorem uQ (L:List (List Tk)) (f:List Tk):frs (L++[f])=frs L++[[.sl .no 3 (tks f)]]:=by simp [frs]
theorem PE (f:List Tk):fY 1 [.sl .full 3 []] 1 [0] [.sl .no 3 (tks f)]=some (.sl .full 1 [[.sl .no 3 (tks f)]]):=rfl
theorem PY {V:AV} {sh:LL} {L:List (List Tk)} (hV:LV V sh L) (hL:L.length<=64) (hb:∀ f∈L,nA f) (T:Int):∀ (k i:Nat) (md:Own),md≠.no->i+k=L.length ->
  (fW (L.drop i)=0->∃ md',md'≠.no/\aC G0 vE (ST [(0,V),(1,.int .i64 T),(6,.sl md 1 (frs (iK (L.take i)))),(17,.bool false),(23,.bool false),(24,V),(25,.int .i64 L.length),(26,.int .i64 i)] [] sh)
   =some (.ex 0,ST [(0,V),(1,.int .i64 T),(6,.sl md' 1 (frs (iK L))),(17,.bool false),(23,.bool false),(24,V),(25,.int .i64 L.length),(26,.int .i64 L.length),(27,.bool false)] [] sh)) /\
  (fW (L.drop i)≠0->∃ l',aC G0 vE (ST [(0,V),(1,.int .i64 T),(6,.sl md 1 (frs (iK (L.take i)))),(17,.bool false),(23,.bool false),(24,V),(25,.int .i64 L.length),(26,.int .i64 i)] [] sh)
   =some (.ret,ST l' [] sh)/\aF .any l' 4=.sl .full 5 []/\aF .any l' 5=.int .i64 (fW (L.drop i)))
 | 0,i,md,hm,h=>by
  have:i=L.length:=by omega
  subst this;have hs:=hV.scrub;refine⟨fun _=>⟨md,hm,?_⟩,fun q=>absurd (by rw[drop_length];rfl) q⟩;rw[take_length,aA (L:=vE) rfl];simp only[go_sem,hs,Int.lt_irrefl]
 | k+1,i,md,hm,h=>by
  have hs:=hV.scrub;have hdv:=hV.dem;have hi:i < L.length:=by omega
  have h4:(i:Int) < (L.length:Int):=by omega
  have h0:(0:Int)<=(i:Int):=by omega
  have hw:=wI (i:=i) (by omega)
  have hg:L[i]?=some L[i]:=getElem?_eq_getElem hi;have hd:L.drop i=L[i] :: L.drop (i+1):=drop_eq_getElem_cons hi;have hsm:=hb _ (getElem_mem hi);generalize L[i]=f at hg hd hsm;obtain⟨P,b1,b2⟩:=hV.at_ i f hg;have b2:=b2 [];simp only[append_nil] at b2;have g20:=c46 f hsm.1 hsm.2;rw[hd];by_cases hv:vld f=0
  ·have eb:fW (f :: L.drop (i+1))=fW (L.drop (i+1)):=by rw[fW,if_pos hv]
   rw[eb];obtain⟨t1,t2,t3,t4⟩:=oP hv;have g21:=k21 f t3 t4;have ih:=PY hV hL hb T k (i+1) .own (by decide) (by omega);have ha:cK 24 ((iK (L.take i)).length+1)=true:=bD (by decide) (by rw[AZ,length_take];omega);rw[zK hg,uQ] at ih;rw[hv] at g20;have step:aC G0 vE (ST [(0,V),(1,.int .i64 T),(6,.sl md 1 (frs (iK (L.take i)))),(17,.bool false),(23,.bool false),(24,V),(25,.int .i64 L.length),(26,.int .i64 i)] [] sh)
    =aC G0 vE (ST [(0,V),(1,.int .i64 T),(6,.sl .own 1 (frs (iK (L.take i))++[[.sl .no 3 (tks (dM f))]])),(17,.bool false),(23,.bool false),(24,V),(25,.int .i64 L.length),(26,.int .i64 ((i+1:Nat):Int))] [] sh):=by
    conv=>lhs;rw[aA (L:=vE) rfl]
    simp only[go_sem,hs,hdv,h4,h0,b1,b2,g20,g21,PE,bH md .full hm 1 24 (by decide),oB,ha,hw]
   rw[step];exact ih
  ·have eb:fW (f :: L.drop (i+1))=vld f:=by rw[fW,if_neg hv]
   rw[eb];refine⟨fun q=>absurd q hv,fun _=>?_⟩;refine Exists.intro ?_ (And.intro ?_ (And.intro ?_ ?_))
   rotate_left 1
   ·rw[aA (L:=vE) rfl]
    simp only[go_sem,hs,hdv,h4,h0,b1,b2,g20,hv];rfl
   ·rfl
   ·rfl
def mtR (p:Int × Int):List AV:=[.int .i64 p.1,.int .i64 p.2,.int .i64 0,.int .i64 0,.int .i64 p.2]
def mts (l:List (Int × Int)):List (List AV):=l.map mtR
theorem sN (l:List (Int × Int)):(mts l).length=l.length:=by simp [mts]
theorem uD (l:List (Int × Int)) (p:Int × Int):mts (l++[p])=mts l++[mtR p]:=by simp [mts]
theorem KP {l:List (Int × Int)} {i:Nat} {p:Int × Int} (h:l[i]?=some p):(mts l)[i]?=some (mtR p):=by simp [mts,h]
def pcL (L:List (List Tk)) (k i:Nat):Int:=prT (dM (L.getD k [])) (dM (L.getD i []))
theorem JB {P:Nat->Int} {t:Int} {k:Nat} (h1:t<=P k) (h2:(bst P t k).2 < P k):bst P t (k+1)=((k:Int),P k):=by simp only[bst];rw[if_pos ⟨h1,h2⟩]
theorem JC {P:Nat->Int} {t:Int} {k:Nat} (h:¬ (t<=P k/\(bst P t k).2 < P k)):bst P t (k+1)=bst P t k:=by simp only[bst];rw[if_neg h]
theorem PF (a b c d e:Int):fY 5 [.int .i64 0,.int .i64 0,.int .i64 0,.int .i64 0,.int .i64 0] 1 [0] [.agg [.int .i64 a,.int .i64 b,.int .i64 c,.int .i64 d,.int .i64 e]]=some (.sl .full 5 [[.int .i64 a,.int .i64 b,.int .i64 c,.int .i64 d,.int .i64 e]]):=rfl
theorem PX {V O:AV} {sh:LL} {L:List (List Tk)} (hV:LV V sh L) (hL:L.length<=64) (hb:∀ f∈L,vld f=0) (T:Int) (md:Own) (i:Nat) (hi:i < L.length) (hO:∀ k,aS k O=O):∀ (d k:Nat),k+d=i ->
  aC G0 H9 (ST [(1,.int .i64 T),(6,.sl md 1 (frs (iK L))),(10,O),(11,.int .i64 i),(12,.loc 12 0),(17,.bool false),(23,.bool false),(24,V),(25,.int .i64 L.length),(26,.int .i64 L.length),(27,.bool false),(42,.int .i64 L.length),(43,.int .i64 i),(44,.bool true),(47,.int .i64 i),(48,.int .i64 k)] [(12,some (mtR (bst (fun k=>pcL L k i) T k)))] sh)
  =some (.ex 4,ST [(1,.int .i64 T),(6,.sl md 1 (frs (iK L))),(10,O),(11,.int .i64 i),(12,.loc 12 0),(17,.bool false),(23,.bool false),(24,V),(25,.int .i64 L.length),(26,.int .i64 L.length),(27,.bool false),(42,.int .i64 L.length),(43,.int .i64 i),(44,.bool true),(47,.int .i64 i),(48,.int .i64 i),(49,.bool false)] [(12,some (mtR (bst (fun k=>pcL L k i) T i)))] sh)
 | 0,k,h=>by
  have:k=i:=by omega
  subst this;have hs:=hV.scrub;rw[aA (L:=H9) rfl];simp only[go_sem,hs,hO,Int.lt_irrefl,mtR]
 | d+1,k,h=>by
  have hs:=hV.scrub;have hk:k < i:=by omega
  have h4:(k:Int) < (i:Int):=by omega
  have h0:(0:Int)<=(k:Int):=by omega
  have hi0:(0:Int)<=(i:Int):=by omega
  have hw:IntKind.i64.wrap ((k:Int)+1)=((k+1:Nat):Int):=by rw[w64 (by omega) (by omega)];rfl
  obtain⟨f,hf⟩:∃ f,L[k]?=some f:=⟨_,getElem?_eq_getElem (by omega)⟩
  obtain⟨g,hg⟩:∃ g,L[i]?=some g:=⟨_,getElem?_eq_getElem hi⟩
  obtain⟨f1,f2,_,_⟩:=oP (hb f (mem_of_getElem? hf));obtain⟨g1,g2,_,_⟩:=oP (hb g (mem_of_getElem? hg));have r1:=sZ (wV hf);have r2:=sZ (wV hg);have t22:=t22 (dM f) (dM g) f1 g1 f2 g2;have hp:pcL L k i=prT (dM f) (dM g):=by unfold pcL;rw[getD_eq_getElem?_getD,getD_eq_getElem?_getD,hf,hg];rfl
  rw[<- hp] at t22;have ih:=PX hV hL hb T md i hi hO d (k+1) (by omega);rw[<- ih]
  conv=>lhs;rw[aA (L:=H9) rfl]
  have hy:=fun q1 q2=>JB (P:=fun k=>pcL L k i) (t:=T) (k:=k) q1 q2
  have hn:=fun q=>JC (P:=fun k=>pcL L k i) (t:=T) (k:=k) q
  try simp only[] at hy hn
  generalize bst (fun k=>pcL L k i) T (k+1)=B' at hy hn;generalize bst (fun k=>pcL L k i) T k=B at hy hn;generalize pcL L k i=p at hy hn t22;by_cases q1:T<=p
  ·by_cases q2:B.2 < p
   ·rw[hy q1 q2]
    simp only[go_sem,hs,hO,h4,h0,hi0,hw,r1,r2,t22,q1,q2,mtR]
   ·rw[hn (fun z=>q2 z.2)]
    simp only[go_sem,hs,hO,h4,h0,hi0,hw,r1,r2,t22,q1,q2,mtR]
  ·rw[hn (fun z=>q1 z.1)]
   simp only[go_sem,hs,hO,h4,h0,hi0,hw,r1,r2,t22,q1,mtR]
theorem PW {V:AV} {sh:LL} {L:List (List Tk)} (hV:LV V sh L) (hL:L.length<=64) (hb:∀ f∈L,vld f=0) (T:Int) (md:Own):∀ (d i:Nat) (mo:Own),mo≠.no->i+d=L.length ->
  ∃ mo',aC G0 H8 (ST [(1,.int .i64 T),(6,.sl md 1 (frs (iK L))),(10,.sl mo 5 (mts (jR (pcL L) T i))),(17,.bool false),(23,.bool false),(24,V),(25,.int .i64 L.length),(26,.int .i64 L.length),(27,.bool false),(42,.int .i64 L.length),(43,.int .i64 i)] [] sh)
  =some (.ex 2,ST [(1,.int .i64 T),(6,.sl md 1 (frs (iK L))),(10,.sl mo' 5 (mts (jR (pcL L) T L.length))),(17,.bool false),(23,.bool false),(24,V),(25,.int .i64 L.length),(26,.int .i64 L.length),(27,.bool false),(42,.int .i64 L.length),(43,.int .i64 L.length),(44,.bool false)] [] sh)
 | 0,i,mo,hm,h=>by
  have:i=L.length:=by omega
  subst this;have hs:=hV.scrub;refine⟨mo,?_⟩;rw[aA (L:=H8) rfl];simp only[go_sem,hs,Int.lt_irrefl]
 | d+1,i,mo,hm,h=>by
  have hs:=hV.scrub;have hi:i < L.length:=by omega
  have h4:(i:Int) < (L.length:Int):=by omega
  have h0:(0:Int)<=(i:Int):=by omega
  have hw:=wI (i:=i) (by omega)
  have ha:cK 40 ((jR (pcL L) T i).length+1)=true:=bD (by decide) (by rw[oX];omega);obtain⟨mo',ih⟩:=PW hV hL hb T md d (i+1) .own (by decide) (by omega);rw[BS,uD] at ih;refine⟨mo',?_⟩;rw[<- ih];have hin:=PX (O:=.sl mo 5 (mts (jR (pcL L) T i))) hV hL hb T md i hi (fun _=>rfl) i 0 (by omega);have ec:((0:Nat):Int)=0:=rfl;have e0:mtR (bst (fun k=>pcL L k i) T 0)=[.int .i64 (-1),.int .i64 0,.int .i64 0,.int .i64 0,.int .i64 0]:=rfl;rw[ec,e0] at hin;generalize bst (fun k=>pcL L k i) T i=B at hin ⊢;simp only[mtR] at hin
  conv=>lhs;rw[aA (L:=H8) rfl]
  simp only[go_sem,hs,h4,h0,hw,hin,PF,bH mo .full hm 5 40 (by decide),sN,ha,mtR]
def sH (L:List (List Tk)) (T:Int):List (Int × Int) × Int:=
 if 64 < L.length then ([],3) else if T < 1\/100 < T then ([],1) else if fW L=0 then (jR (pcL L) T L.length,0) else ([],fW L)
theorem gA:mts []=[]:=rfl
theorem t8 {V:AV} {sh:LL} {L:List (List Tk)} (hV:LV V sh L) (hR:tF sh) (hb:∀ f∈L,nA f) (T:Int):G0 8 [V,.int .i64 T] sh=some (.tup [.sl .no 5 (mts (sH L T).1),.int .i64 (sH L T).2],sh):=by
 have hs:=hV.scrub;have hdv:=hV.dem;have hlen:=hV.len;have hRa:=hR.self;have htk:List.take sh.length sh=sh:=take_length;unfold sH;by_cases h1:64 < L.length
 ·have h1':(64:Int) < (L.length:Int):=by omega
  rw[if_pos h1];refine aB F8 rfl rfl rfl ?_;simp only[F8,go_sem,hs,hdv,hlen,h1',hRa,htk,gA]
 have h1':¬ (64:Int) < (L.length:Int):=by omega
 rw[if_neg h1];by_cases h2:T < 1
 ·rw[if_pos (.inl h2)]
  refine aB F8 rfl rfl rfl ?_;simp only[F8,go_sem,hs,hdv,hlen,h1',h2,hRa,htk,gA]
 by_cases h3:100 < T
 ·rw[if_pos (.inr h3)]
  refine aB F8 rfl rfl rfl ?_;simp only[F8,go_sem,hs,hdv,hlen,h1',h2,h3,hRa,htk,gA]
 rw[if_neg (by omega)];obtain⟨x1,x2⟩:=PY hV (by omega) hb T L.length 0 .full (by decide) (by omega);have ec:((0:Nat):Int)=0:=rfl;have ez:frs (iK [])=[]:=rfl;rw[drop_zero,take_zero,ec,ez] at x1 x2;by_cases h4:fW L=0
 ·rw[if_pos h4]
  obtain⟨md',hm,x⟩:=x1 h4;obtain⟨mo',y⟩:=PW hV (by omega) (tC h4) T md' L.length 0 .full (by decide) (by omega);have ey:mts (jR (pcL L) T 0)=[]:=rfl;rw[ec,ey] at y;refine aB F8 rfl rfl rfl ?_;simp only[F8,go_sem,hs,hdv,hlen,h1',h2,h3,x,y,hRa,htk]
 ·rw[if_neg h4]
  obtain⟨l',x,x4,x5⟩:=x2 h4;refine aB F8 rfl rfl rfl ?_;simp only[F8,go_sem,hs,hdv,hlen,h1',h2,h3,x,x4,x5,hRa,htk,gA]
end Go.Av
namespace Go.Av
open Go.Nt
theorem PV {V:AV} {sh:LL} {L:List (List Tk)} (hV:LV V sh L) (hL:L.length<=64) (hb:∀ f∈L,nA f) (T:Int):∀ (k i:Nat),i+k=L.length ->
  (fW (L.drop i)=0->aC G0 vC (ST [(0,V),(1,.int .i64 T),(15,.bool false),(21,.bool false),(23,.int .i64 L.length),(24,.int .i64 i)] [] sh)
   =some (.ex 0,ST [(0,V),(1,.int .i64 T),(15,.bool false),(21,.bool false),(23,.int .i64 L.length),(24,.int .i64 L.length),(25,.bool false)] [] sh)) /\
  (fW (L.drop i)≠0->∃ l',aC G0 vC (ST [(0,V),(1,.int .i64 T),(15,.bool false),(21,.bool false),(23,.int .i64 L.length),(24,.int .i64 i)] [] sh)
   =some (.ret,ST l' [] sh)/\aF .any l' 4=.sl .full 5 []/\aF .any l' 5=.int .i64 (fW (L.drop i)))
 | 0,i,h=>by
  have:i=L.length:=by omega
  subst this;have hs:=hV.scrub;refine⟨fun _=>?_,fun q=>absurd (by rw[drop_length];rfl) q⟩;rw[aA (L:=vC) rfl];simp only[go_sem,hs,Int.lt_irrefl]
 | k+1,i,h=>by
  have hs:=hV.scrub;have hdv:=hV.dem;have hi:i < L.length:=by omega
  have h4:(i:Int) < (L.length:Int):=by omega
  have h0:(0:Int)<=(i:Int):=by omega
  have hw:=wI (i:=i) (by omega)
  have hg:L[i]?=some L[i]:=getElem?_eq_getElem hi;have hd:L.drop i=L[i] :: L.drop (i+1):=drop_eq_getElem_cons hi;have hsm:=hb _ (getElem_mem hi);generalize L[i]=f at hg hd hsm;obtain⟨P,b1,b2⟩:=hV.at_ i f hg;have b2:=b2 [];simp only[append_nil] at b2;have g22:=c21 f hsm.1 hsm.2;have ih:=PV hV hL hb T k (i+1) (by omega);rw[hd];by_cases hv:vld f=0
  ·have eb:fW (f :: L.drop (i+1))=fW (L.drop (i+1)):=by rw[fW,if_pos hv]
   rw[eb];rw[hv] at g22;have step:aC G0 vC (ST [(0,V),(1,.int .i64 T),(15,.bool false),(21,.bool false),(23,.int .i64 L.length),(24,.int .i64 i)] [] sh)
    =aC G0 vC (ST [(0,V),(1,.int .i64 T),(15,.bool false),(21,.bool false),(23,.int .i64 L.length),(24,.int .i64 ((i+1:Nat):Int))] [] sh):=by
    conv=>lhs;rw[aA (L:=vC) rfl]
    simp only[go_sem,hs,hdv,h4,h0,b1,b2,g22,hw]
   rw[step];exact ih
  ·have eb:fW (f :: L.drop (i+1))=vld f:=by rw[fW,if_neg hv]
   rw[eb];refine⟨fun q=>absurd q hv,fun _=>?_⟩;refine Exists.intro ?_ (And.intro ?_ (And.intro ?_ ?_))
   rotate_left 1
   ·rw[aA (L:=vC) rfl]
    simp only[go_sem,hs,hdv,h4,h0,b1,b2,g22,hv];rfl
   ·rfl
   ·rfl
theorem PU {V O:AV} {sh:LL} {L:List (List Tk)} (hV:LV V sh L) (hL:L.length<=64) (hb:∀ f∈L,vld f=0) (T:Int) (i:Nat) (hi:i < L.length) (hO:∀ k,aS k O=O):∀ (d k:Nat),k+d=i ->
  aC G0 H7 (ST [(0,V),(1,.int .i64 T),(8,O),(9,.int .i64 i),(10,.loc 10 0),(11,.int .i64 k),(15,.bool false),(21,.bool false),(23,.int .i64 L.length),(24,.int .i64 L.length),(25,.bool false),(37,.int .i64 L.length),(38,.int .i64 i),(39,.bool true)] [(10,some (mtR (bst (fun k=>pcL L k i) T k)))] sh)
  =some (.ex 4,ST [(0,V),(1,.int .i64 T),(8,O),(9,.int .i64 i),(10,.loc 10 0),(11,.int .i64 i),(15,.bool false),(21,.bool false),(23,.int .i64 L.length),(24,.int .i64 L.length),(25,.bool false),(37,.int .i64 L.length),(38,.int .i64 i),(39,.bool true),(44,.bool false)] [(10,some (mtR (bst (fun k=>pcL L k i) T i)))] sh)
 | 0,k,h=>by
  have:k=i:=by omega
  subst this;have hs:=hV.scrub;rw[aA (L:=H7) rfl];simp only[go_sem,hs,hO,Int.lt_irrefl,mtR]
 | d+1,k,h=>by
  have hs:=hV.scrub;have hdv:=hV.dem;have hk:k < i:=by omega
  have h4:(k:Int) < (i:Int):=by omega
  have h0:(0:Int)<=(k:Int):=by omega
  have hi0:(0:Int)<=(i:Int):=by omega
  have hw:IntKind.i64.wrap ((k:Int)+1)=((k+1:Nat):Int):=by rw[w64 (by omega) (by omega)];rfl
  obtain⟨f,hf⟩:∃ f,L[k]?=some f:=⟨_,getElem?_eq_getElem (by omega)⟩
  obtain⟨g,hg⟩:∃ g,L[i]?=some g:=⟨_,getElem?_eq_getElem hi⟩
  obtain⟨f1,f2,f3,f4⟩:=oP (hb f (mem_of_getElem? hf));obtain⟨g1,g2,g3,g4⟩:=oP (hb g (mem_of_getElem? hg));obtain⟨P,b1,b2⟩:=hV.at_ k f hf;obtain⟨Q,c1,c2⟩:=hV.at_ i g hg;have b2:=b2 [];have c2:=c2 [];simp only[append_nil] at b2 c2;have kf:=k11 f f3 f4;have kg:=k11 g g3 g4;have t10:=t10 (dM f) (dM g) f1 g1 f2 g2;have hp:pcL L k i=prT (dM f) (dM g):=by unfold pcL;rw[getD_eq_getElem?_getD,getD_eq_getElem?_getD,hf,hg];rfl
  rw[<- hp] at t10;have ih:=PU hV hL hb T i hi hO d (k+1) (by omega);rw[<- ih]
  conv=>lhs;rw[aA (L:=H7) rfl]
  have hy:=fun q1 q2=>JB (P:=fun k=>pcL L k i) (t:=T) (k:=k) q1 q2
  have hn:=fun q=>JC (P:=fun k=>pcL L k i) (t:=T) (k:=k) q
  try simp only[] at hy hn
  generalize bst (fun k=>pcL L k i) T (k+1)=B' at hy hn;generalize bst (fun k=>pcL L k i) T k=B at hy hn;generalize pcL L k i=p at hy hn t10;by_cases q1:T<=p
  ·by_cases q2:B.2 < p
   ·rw[hy q1 q2]
    simp only[go_sem,hs,hdv,hO,h4,h0,hi0,hw,b1,b2,c1,c2,kf,kg,t10,q1,q2,mtR]
   ·rw[hn (fun z=>q2 z.2)]
    simp only[go_sem,hs,hdv,hO,h4,h0,hi0,hw,b1,b2,c1,c2,kf,kg,t10,q1,q2,mtR]
  ·rw[hn (fun z=>q1 z.1)]
   simp only[go_sem,hs,hdv,hO,h4,h0,hi0,hw,b1,b2,c1,c2,kf,kg,t10,q1,mtR]
theorem PT {V:AV} {sh:LL} {L:List (List Tk)} (hV:LV V sh L) (hL:L.length<=64) (hb:∀ f∈L,vld f=0) (T:Int):∀ (d i:Nat) (mo:Own),mo≠.no->i+d=L.length ->
  ∃ mo',aC G0 H6 (ST [(0,V),(1,.int .i64 T),(8,.sl mo 5 (mts (jR (pcL L) T i))),(15,.bool false),(21,.bool false),(23,.int .i64 L.length),(24,.int .i64 L.length),(25,.bool false),(37,.int .i64 L.length),(38,.int .i64 i)] [] sh)
  =some (.ex 2,ST [(0,V),(1,.int .i64 T),(8,.sl mo' 5 (mts (jR (pcL L) T L.length))),(15,.bool false),(21,.bool false),(23,.int .i64 L.length),(24,.int .i64 L.length),(25,.bool false),(37,.int .i64 L.length),(38,.int .i64 L.length),(39,.bool false)] [] sh)
 | 0,i,mo,hm,h=>by
  have:i=L.length:=by omega
  subst this;have hs:=hV.scrub;refine⟨mo,?_⟩;rw[aA (L:=H6) rfl];simp only[go_sem,hs,Int.lt_irrefl]
 | d+1,i,mo,hm,h=>by
  have hs:=hV.scrub;have hi:i < L.length:=by omega
  have h4:(i:Int) < (L.length:Int):=by omega
  have h0:(0:Int)<=(i:Int):=by omega
  have hw:=wI (i:=i) (by omega)
  have ha:cK 40 ((jR (pcL L) T i).length+1)=true:=bD (by decide) (by rw[oX];omega);obtain⟨mo',ih⟩:=PT hV hL hb T d (i+1) .own (by decide) (by omega);rw[BS,uD] at ih;refine⟨mo',?_⟩;rw[<- ih];have hin:=PU (O:=.sl mo 5 (mts (jR (pcL L) T i))) hV hL hb T i hi (fun _=>rfl) i 0 (by omega);have ec:((0:Nat):Int)=0:=rfl;have e0:mtR (bst (fun k=>pcL L k i) T 0)=[.int .i64 (-1),.int .i64 0,.int .i64 0,.int .i64 0,.int .i64 0]:=rfl;rw[ec,e0] at hin;generalize bst (fun k=>pcL L k i) T i=B at hin ⊢;simp only[mtR] at hin
  conv=>lhs;rw[aA (L:=H6) rfl]
  simp only[go_sem,hs,h4,h0,hw,hin,PF,bH mo .full hm 5 40 (by decide),sN,ha,mtR]
theorem k9 {V:AV} {sh:LL} {L:List (List Tk)} (hV:LV V sh L) (hR:tF sh) (hb:∀ f∈L,nA f) (T:Int):G0 9 [V,.int .i64 T] sh=some (.tup [.sl .no 5 (mts (sH L T).1),.int .i64 (sH L T).2],sh):=by
 have hs:=hV.scrub;have hdv:=hV.dem;have hlen:=hV.len;have hRa:=hR.self;have htk:List.take sh.length sh=sh:=take_length;unfold sH;by_cases h1:64 < L.length
 ·have h1':(64:Int) < (L.length:Int):=by omega
  rw[if_pos h1];refine aB F9 rfl rfl rfl ?_;simp only[F9,go_sem,hs,hdv,hlen,h1',hRa,htk,gA]
 have h1':¬ (64:Int) < (L.length:Int):=by omega
 rw[if_neg h1];by_cases h2:T < 1
 ·rw[if_pos (.inl h2)]
  refine aB F9 rfl rfl rfl ?_;simp only[F9,go_sem,hs,hdv,hlen,h1',h2,hRa,htk,gA]
 by_cases h3:100 < T
 ·rw[if_pos (.inr h3)]
  refine aB F9 rfl rfl rfl ?_;simp only[F9,go_sem,hs,hdv,hlen,h1',h2,h3,hRa,htk,gA]
 rw[if_neg (by omega)];obtain⟨x1,x2⟩:=PV hV (by omega) hb T L.length 0 (by omega);have ec:((0:Nat):Int)=0:=rfl;rw[drop_zero,ec] at x1 x2;by_cases h4:fW L=0
 ·rw[if_pos h4]
  have x:=x1 h4;obtain⟨mo',y⟩:=PT hV (by omega) (tC h4) T L.length 0 .full (by decide) (by omega);have ey:mts (jR (pcL L) T 0)=[]:=rfl;rw[ec,ey] at y;refine aB F9 rfl rfl rfl ?_;simp only[F9,go_sem,hs,hdv,hlen,h1',h2,h3,x,y,hRa,htk]
 ·rw[if_neg h4]
  obtain⟨l',x,x4,x5⟩:=x2 h4;refine aB F9 rfl rfl rfl ?_;simp only[F9,go_sem,hs,hdv,hlen,h1',h2,h3,x,x4,x5,hRa,htk,gA]
theorem l10 (a:List (Int × Int)) (hl:a.length<=1000000):∀ (k i:Nat),i+k=a.length ->
  aC G0 zH (ST [(0,.sl .no 5 (mts a)),(1,.sl .no 5 (mts a)),(10,.bool false),(12,.int .i64 a.length),(13,.int .i64 i)] [] [])=some (.ex 0,ST [(0,.sl .no 5 (mts a)),(1,.sl .no 5 (mts a)),(10,.bool false),(12,.int .i64 a.length),(13,.int .i64 a.length),(14,.bool false)] [] [])
 | 0,i,h=>by
  have:i=a.length:=by omega
  subst this;rw[aA (L:=zH) rfl];simp only[go_sem,Int.lt_irrefl]
 | k+1,i,h=>by
  have h4:(i:Int) < (a.length:Int):=by omega
  have h0:(0:Int)<=(i:Int):=by omega
  have hw:=wI (i:=i) (by omega)
  obtain⟨p,hp⟩:∃ p,a[i]?=some p:=⟨_,getElem?_eq_getElem (by omega)⟩
  have r:=KP hp;simp only[mtR] at r;have ih:=l10 a hl k (i+1) (by omega);rw[<- ih]
  conv=>lhs;rw[aA (L:=zH) rfl]
  simp only[go_sem,h4,h0,r,hw,decide_true,Bool.and_self]
theorem k10 (a:List (Int × Int)) (hl:a.length<=1000000):G0 10 [.sl .no 5 (mts a),.sl .no 5 (mts a)] []=some (.bool true,[]):=by
 have x:=l10 a hl a.length 0 (by omega);have ec:((0:Nat):Int)=0:=rfl;rw[ec] at x;refine aB F10 rfl rfl rfl ?_;simp only[F10,go_sem,sN,x]
end Go.Av
namespace Go.Av
open Go.Nt
theorem JM (L:List (List Tk)) (sh:LL):LV (.sl .no 1 (frs L)) sh L:=by
 refine⟨by rw[<- oB L];rfl,fun _=>rfl,rfl,rfl,fun i f h=>?_⟩;refine⟨.ip [.sl .no 3 (tks f)],?_,fun X m=>rfl⟩;have h0:(0:Int)<=(i:Int):=by omega
 rw[C6,if_pos h0,Int.toNat_natCast,sZ h];rfl
theorem l3u {V1 V2:LL} {M1 M2:List (Int × Int)} {E1 E2 T T0:Int}
  (a1:G0 8 [.sl .no 1 V1,.int .i64 T] []=some (.tup [.sl .no 5 (mts M1),.int .i64 E1],[])) (b1:G0 9 [.sl .no 1 V1,.int .i64 T] []=some (.tup [.sl .no 5 (mts M1),.int .i64 E1],[]))
  (a2:G0 8 [.sl .no 1 V2,.int .i64 T] []=some (.tup [.sl .no 5 (mts M2),.int .i64 E2],[])) (b2:G0 9 [.sl .no 1 V2,.int .i64 T] []=some (.tup [.sl .no 5 (mts M2),.int .i64 E2],[]))
  (m1:M1.length<=1000000) (m2:M2.length<=1000000) :
  aC G0 D7 (ST [(1,.int .i64 T0),(7,.int .i64 T),(8,.sl .no 1 V1),(31,.bool false),(43,.agg [.sl .no 1 V1,.sl .no 1 V2]),(44,.int .i64 0)] [] [])
  =some (.ex 0,ST [(1,.int .i64 T0),(7,.int .i64 T),(8,.sl .no 1 V1),(31,.bool false),(43,.agg [.sl .no 1 V1,.sl .no 1 V2]),(44,.int .i64 2),(45,.bool false)] [] []):=by
 have c1:=k10 M1 m1;have c2:=k10 M2 m2;rw[aA (L:=D7) rfl];simp only[go_sem,a1,b1,a2,b2,c1,c2];rw[aA (L:=D7) rfl];simp only[go_sem,a1,b1,a2,b2,c1,c2];rw[aA (L:=D7) rfl];simp only[go_sem,a1,b1,a2,b2,c1,c2]
theorem tQ (L:List (List Tk)) (T:Int):(sH L T).1.length<=64:=by
 unfold sH;split
 ·simp
 ·split
  ·simp
  ·split
   ·rw[oX];omega
   ·simp
theorem k3 (l:List Int) (T:Int) (f:List Tk) (hl:f.length<=4398046511104) (hb:∀ t∈f,t.2.1.length<=140737488355328):G0 3 [.sl .no 1 (bC l),.int .i64 T,.sl .no 3 (tks f)] []=some (.bool true,[]):=by
 refine aB F3 rfl rfl rfl ?_;by_cases h1:(200:Int) < (l.length:Int)
 ·simp only[F3,go_sem,aU,aE,h1,c16]
 by_cases h2:(12:Int) < (f.length:Int)
 ·simp only[F3,go_sem,aU,aE,h1,h2,c16]
 have h15:=c15 f (by omega) hb;by_cases h3:(100:Int) < (len f:Int)
 ·simp only[F3,go_sem,aU,aE,h1,h2,h15,h3,c16]
 obtain⟨L,q2,q3,h6⟩:=k6 l 7 (by decide) (by decide);have hsm:∀ g∈L,nA g:=by
  intro g hg;have hz:=(q2 g hg).1;exact⟨by have:=hz.1;omega,fun t ht=>by have:=sA t ht;have:=hz.2;simp only[dW];omega⟩
 have hsm2:∀ g∈L++[f],nA g:=by
  intro g hg;rcases mem_append.1 hg with q | q
  ·exact hsm g q
  ·rw[mem_singleton] at q;subst q;exact⟨by omega,hb⟩
 have hR:tF []:=rfl;have hV1:=JM L [];have hV2:=JM (L++[f]) [];have h7:=c18 T 102 (by decide) (by decide);generalize T % 102=t at h7;have lp:=l3u (T0:=T) (t8 hV1 hR hsm t) (k9 hV1 hR hsm t) (t8 hV2 hR hsm2 t) (k9 hV2 hR hsm2 t) (by have:=tQ L t;omega) (by have:=tQ (L++[f]) t;omega);rw[uQ] at lp;have g8:=t8 hV1 hR hsm T;have g9:=k9 hV1 hR hsm T;generalize sH L T=S at g8 g9;have ha:cK 24 L.length=true:=bD (by decide) (by omega);have ha1:cK 24 (L.length+1)=true:=bD (by decide) (by omega);simp only[F3,go_sem,aU,aE,h1,h2,h15,h3,h6,h7,PE,bH .full .no (by decide) 1 24 (by decide),bH .own .full (by decide) 1 24 (by decide),oB,ha,ha1,lp,g8,g9,c16]
end Go.Av
