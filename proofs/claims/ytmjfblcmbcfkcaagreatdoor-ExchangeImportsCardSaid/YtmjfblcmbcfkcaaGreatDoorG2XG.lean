/- Reading a notation: the reference's reader of a tag. Reading a notation: the reference reads a tag as 'rd' does. Reading a notation: the reference reads an element as 'rd' does. The fixed example, equal fragments, short fragments, made fragments; three of the laws. -/
import Derived.Test.YtmjfblcmbcfkcaaGreatDoorG2XF
open List
set_option linter.unusedSimpArgs false
set_option linter.unusedVariables false
set_option linter.unusedSectionVars false
set_option maxRecDepth 100000
set_option maxHeartbeats 16000000
namespace Go.Av
open Go.Nt
theorem l85 (s:Bs) (hs:s.length<=1000000):∀ (q p:Bs),s=p++q ->
  (cut 62 q=none->aC G0 pA (ST [(0,.str s),(2,.loc 2 0),(4,.int .i64 p.length)] [(2,some [.int .i64 0,.str [],.int .i64 0])] [])=some (.ex 0,ST [(0,.str s),(2,.loc 2 0),(4,.int .i64 s.length),(19,.bool false)] [(2,some [.int .i64 0,.str [],.int .i64 0])] [])) /\
  (∀ t w,cut 62 q=some (t,w)->aC G0 pA (ST [(0,.str s),(2,.loc 2 0),(4,.int .i64 p.length)] [(2,some [.int .i64 0,.str [],.int .i64 0])] [])=some (.ex 0,ST [(0,.str s),(2,.loc 2 0),(4,.int .i64 ((p.length+t.length:Nat):Int)),(19,.bool false)] [(2,some [.int .i64 0,.str [],.int .i64 0])] []))
 | [],p,h=>by
  have h:s=p:=by simp [h]
  subst h;refine⟨fun _=>?_,fun t w h=>(by cases h)⟩;rw[aB (L:=pA) rfl];simp only[go_sem,Int.lt_irrefl]
 | c :: q,p,h=>by
  have ih:=l85 s hs q (p++[c]) (by simp [h]);have hl:s.length=p.length+1+q.length:=by simp [h];omega
  have e1:((p++[c]).length:Int)=((p.length+1:Nat):Int):=by simp
  rw[e1] at ih;have h4:(p.length:Int) < (s.length:Int):=by omega
  have h0:(0:Int)<=(p.length:Int):=by omega
  have h5:s[p.length]?=some c:=by rw[h];simp
  have hw:IntKind.i64.wrap ((p.length:Int)+1)=((p.length+1:Nat):Int):=by rw[w64 (by omega) (by omega)];rfl
  by_cases hc:c=62
  ·subst hc
   have n62:(((62:UInt8).toNat:Nat):Int)=62:=rfl;have ec:cut 62 (62 :: q)=some ([],q):=by simp [cut]
   rw[ec];refine⟨fun q=>(by cases q),fun t w h=>?_⟩;cases h;rw[aB (L:=pA) rfl];simp only[go_sem,h4,h0,h5,n62,length_nil,Nat.add_zero]
  ·have a:¬ (c.toNat:Int)=62:=cH (d:=62) hc
   have step:aC G0 pA (ST [(0,.str s),(2,.loc 2 0),(4,.int .i64 p.length)] [(2,some [.int .i64 0,.str [],.int .i64 0])] [])=aC G0 pA (ST [(0,.str s),(2,.loc 2 0),(4,.int .i64 ((p.length+1:Nat):Int))] [(2,some [.int .i64 0,.str [],.int .i64 0])] []):=by
    conv=>lhs;rw[aB (L:=pA) rfl]
    simp only[go_sem,h4,h0,h5,a,hw]
   rw[step,xR hc];refine⟨fun q=>ih.1 (Option.map_eq_none_iff.1 q),fun t w h=>?_⟩;obtain⟨⟨t',w'⟩,h1,h2⟩:=Option.map_eq_some_iff.1 h;simp only[Prod.mk.injEq] at h2;obtain⟨rfl,rfl⟩:=h2
   have:=ih.2 t' w' h1
   simp only[length_append,length_singleton] at this;rw[length_cons,show p.length+(t'.length+1)=p.length+1+t'.length by omega];exact this
theorem l85A (t:Bs) (ht:t.length<=1000000) (e:Int):∀ (f k n:Nat),k+f=4->n < 10 ^ k ->
  aC G0 kD (ST [(2,.loc 2 0),(4,.int .i64 e),(5,.str t),(6,(.int .i64 3)),(7,.int .i64 n),(8,.int .i64 k),(19,.bool false),(25,.bool false),(37,.bool true)] [(2,some [.int .i64 0,.str [],.int .i64 0])] [])=some (.ex 2,ST [(2,.loc 2 0),(4,.int .i64 e),(5,.str t),(6,(.int .i64 3)),(7,.int .i64 ((cV (((t.drop k).take (4 - k)).takeWhile dE) n:Nat):Int)),(8,.int .i64 ((k+(((t.drop k).take (4 - k)).takeWhile dE).length:Nat):Int)),(19,.bool false),(25,.bool false),(37,.bool true),(75,.bool false)] [(2,some [.int .i64 0,.str [],.int .i64 0])] [])
 | f,k,n,hk,hn=>by
  have h0:(0:Int)<=(k:Int):=by omega
  have hp4:10 ^ k<=10 ^ 4:=Nat.pow_le_pow_right (by decide) (by omega);by_cases h1:k < t.length
  ·have h1':(k:Int) < (t.length:Int):=by omega
   obtain⟨c,h5,hd⟩:=wD h1;have hI:=xO c
   cases f with
   | zero =>
    have hk4:k=4:=by omega
    subst hk4;have h1':(4:Int) < (t.length:Int):=by omega
    have e4:((4:Nat):Int)=4:=rfl;have ew:((t.drop 4).take (4 - 4)).takeWhile dE=[]:=by simp
    rw[ew];rw[aB (L:=kD) rfl];simp only[go_sem,e4,h1',Int.lt_irrefl,length_nil,Nat.add_zero,cV]
   | succ f =>
    have h2':(k:Int) < 4:=by omega
    cases hc:dE c with
    | true =>
     obtain⟨a1,a2⟩:=hI.1 hc;have hb:=c.toNat_lt;have w1:IntKind.i64.wrap (10*(n:Int))=10*(n:Int):=w64 (by omega) (by omega);have w2:IntKind.u8.wrap ((c.toNat:Int) - 48)=(c.toNat:Int) - 48:=wu8 (by omega) (by omega);have w3:IntKind.i64.wrap ((c.toNat:Int) - 48)=(c.toNat:Int) - 48:=w64 (by omega) (by omega);have w4:IntKind.i64.wrap (10*(n:Int)+((c.toNat:Int) - 48))=((10*n+(c.toNat - 48):Nat):Int):=by rw[w64 (by omega) (by omega)];omega
     have hw:IntKind.i64.wrap ((k:Int)+1)=((k+1:Nat):Int):=by rw[w64 (by omega) (by omega)];rfl
     have ih:=l85A t ht e f (k+1) (10*n+(c.toNat - 48)) (by omega) (by rw[Nat.pow_succ];omega);rw[DP (by omega) h5 hc,takeWhile_cons,if_pos hc,length_cons,show k+((((t.drop (k+1)).take (4 - (k+1))).takeWhile dE).length+1)=k+1+(((t.drop (k+1)).take (4 - (k+1))).takeWhile dE).length by omega];simp only[cV];rw[aB (L:=kD) rfl];simp only[go_sem,h0,h1',h2',h5,a1,a2,w1,w2,w3,w4,hw];exact ih
    | false =>
     have ew:((t.drop k).take (4 - k)).takeWhile dE=[]:=by
      rw[hd,show 4 - k=(4 - k - 1)+1 by omega,take_succ_cons,takeWhile_cons,hc];rfl
     rw[ew];rw[aB (L:=kD) rfl];by_cases a1:48<=(c.toNat:Int)
     ·have a2:¬ (c.toNat:Int)<=57:=fun q=>by rw[hI.2 ⟨a1,q⟩] at hc;cases hc
      simp only[go_sem,h0,h1',h2',h5,a1,a2,length_nil,Nat.add_zero,cV]
     ·simp only[go_sem,h0,h1',h2',h5,a1,length_nil,Nat.add_zero,cV]
  ·have h1':¬ (k:Int) < (t.length:Int):=by omega
   have ew:((t.drop k).take (4 - k)).takeWhile dE=[]:=by rw[drop_of_length_le (by omega)];simp
   rw[ew];rw[aB (L:=kD) rfl];simp only[go_sem,h1',length_nil,Nat.add_zero,cV]
theorem RG (t:Bs) (ht:t.length<=1000000) (e:Int) (K:Int) (B:Bool):∀ (f k n:Nat),k+f=4->n < 10 ^ k ->
  aC G0 kD (ST [(2,.loc 2 0),(4,.int .i64 e),(5,.str t),(6,(.int .i64 K)),(7,.int .i64 n),(8,.int .i64 k),(19,.bool false),(25,.bool false),(37,.bool false),(50,.bool B)] [(2,some [.int .i64 0,.str [],.int .i64 0])] [])=some (.ex 2,ST [(2,.loc 2 0),(4,.int .i64 e),(5,.str t),(6,(.int .i64 K)),(7,.int .i64 ((cV (((t.drop k).take (4 - k)).takeWhile dE) n:Nat):Int)),(8,.int .i64 ((k+(((t.drop k).take (4 - k)).takeWhile dE).length:Nat):Int)),(19,.bool false),(25,.bool false),(37,.bool false),(50,.bool B),(75,.bool false)] [(2,some [.int .i64 0,.str [],.int .i64 0])] [])
 | f,k,n,hk,hn=>by
  have h0:(0:Int)<=(k:Int):=by omega
  have hp4:10 ^ k<=10 ^ 4:=Nat.pow_le_pow_right (by decide) (by omega);by_cases h1:k < t.length
  ·have h1':(k:Int) < (t.length:Int):=by omega
   obtain⟨c,h5,hd⟩:=wD h1;have hI:=xO c
   cases f with
   | zero =>
    have hk4:k=4:=by omega
    subst hk4;have h1':(4:Int) < (t.length:Int):=by omega
    have e4:((4:Nat):Int)=4:=rfl;have ew:((t.drop 4).take (4 - 4)).takeWhile dE=[]:=by simp
    rw[ew];rw[aB (L:=kD) rfl];simp only[go_sem,e4,h1',Int.lt_irrefl,length_nil,Nat.add_zero,cV]
   | succ f =>
    have h2':(k:Int) < 4:=by omega
    cases hc:dE c with
    | true =>
     obtain⟨a1,a2⟩:=hI.1 hc;have hb:=c.toNat_lt;have w1:IntKind.i64.wrap (10*(n:Int))=10*(n:Int):=w64 (by omega) (by omega);have w2:IntKind.u8.wrap ((c.toNat:Int) - 48)=(c.toNat:Int) - 48:=wu8 (by omega) (by omega);have w3:IntKind.i64.wrap ((c.toNat:Int) - 48)=(c.toNat:Int) - 48:=w64 (by omega) (by omega);have w4:IntKind.i64.wrap (10*(n:Int)+((c.toNat:Int) - 48))=((10*n+(c.toNat - 48):Nat):Int):=by rw[w64 (by omega) (by omega)];omega
     have hw:IntKind.i64.wrap ((k:Int)+1)=((k+1:Nat):Int):=by rw[w64 (by omega) (by omega)];rfl
     have ih:=RG t ht e K B f (k+1) (10*n+(c.toNat - 48)) (by omega) (by rw[Nat.pow_succ];omega);rw[DP (by omega) h5 hc,takeWhile_cons,if_pos hc,length_cons,show k+((((t.drop (k+1)).take (4 - (k+1))).takeWhile dE).length+1)=k+1+(((t.drop (k+1)).take (4 - (k+1))).takeWhile dE).length by omega];simp only[cV];rw[aB (L:=kD) rfl];simp only[go_sem,h0,h1',h2',h5,a1,a2,w1,w2,w3,w4,hw];exact ih
    | false =>
     have ew:((t.drop k).take (4 - k)).takeWhile dE=[]:=by
      rw[hd,show 4 - k=(4 - k - 1)+1 by omega,take_succ_cons,takeWhile_cons,hc];rfl
     rw[ew];rw[aB (L:=kD) rfl];by_cases a1:48<=(c.toNat:Int)
     ·have a2:¬ (c.toNat:Int)<=57:=fun q=>by rw[hI.2 ⟨a1,q⟩] at hc;cases hc
      simp only[go_sem,h0,h1',h2',h5,a1,a2,length_nil,Nat.add_zero,cV]
     ·simp only[go_sem,h0,h1',h2',h5,a1,length_nil,Nat.add_zero,cV]
  ·have h1':¬ (k:Int) < (t.length:Int):=by omega
   have ew:((t.drop k).take (4 - k)).takeWhile dE=[]:=by rw[drop_of_length_le (by omega)];simp
   rw[ew];rw[aB (L:=kD) rfl];simp only[go_sem,h1',length_nil,Nat.add_zero,cV]
end Go.Av
namespace Go.Av
open Go.Nt
theorem gW {t u:Bs} {K:Int} (hK:rtK t=(K,u)) (h:∀ a b n,cut 58 u=some (a,b)->rdN a=some n->False):rdT t=none:=by
 rw[LQ,hK];simp only[];cases hc:cut 58 u with
 | none=>rfl
 | some p =>
  obtain⟨a,b⟩:=p;simp only[];cases hn:rdN a with
  | none=>rfl
  | some n=>exact (h a b n hc hn).elim
theorem EP {t u:Bs} {K:Int} (hK:rtK t=(K,u)) {a b:Bs} {n:Nat} (h1:cut 58 u=some (a,b)) (h2:rdN a=some n):rdT t=if rtV K b=true then some (K,b,(n:Int)) else none:=by
 rw[LQ,hK];simp only[h1,h2]
theorem at0 {u:Bs} (h:1<=u.length):∃ c,u[0]?=some c:=by
 cases u with
 | nil=>simp at h
 | cons c r=>exact⟨c,rfl⟩
theorem c85A (T w S:Bs) (hS:S=60 :: (T++62 :: w)) (hcut:cut 62 (T++62 :: w)=some (T,w)) (hr:T.length+w.length<=100000) (hT:∃ u,T=47 :: u):∃ (k:Int) (s:Bs) (i:Int) (n:Int),G0 138 [.str S] []=some (.tup [.agg [.int .i64 k,.str s,.int .i64 i],.int .i64 n],[])/\(rdT T=none->n=0)/\∀ x,rdT T=some x->(k,s,i)=x/\n=((T.length+2:Nat):Int):=by
 obtain⟨u,hT⟩:=hT;have t0:T[0]?=some 47:=by rw[hT];rfl
 have n47:(((47:UInt8).toNat:Nat):Int)=47:=rfl;have hTl:T.length=u.length+1:=by rw[hT];rfl
 have tl:(0:Int) < (T.length:Int):=by omega
 have su:bO true 0 (.str T) (some (.int .i64 1)) none=some (.str u):=by rw[hT];exact lo1 47 u
 have hK:rtK T=(3,u):=by rw[hT];rfl
 have x2:=(l85 (60 :: (T++62 :: w)) (by simp;omega) (T++62 :: w) [60] rfl).2 T w hcut;have e1:(([60]:Bs).length:Int)=1:=rfl;have ex:(([60]:Bs).length+T.length:Nat)=T.length+1:=by simp;omega
 rw[ex,e1,<- hS] at x2;have sl:=sl1 60 T (62 :: w);rw[<- hS] at sl;have hSl:S.length=T.length+2+w.length:=by rw[hS];simp;omega
 have n1:¬ (S.length:Int)<=((T.length+1:Nat):Int):=by omega
 have lp:=fun e=>l85A u (by omega) e 4 0 0 rfl (by decide)
 have x3:=lp ((T.length+1:Nat):Int);have ec:((0:Nat):Int)=0:=rfl;have ed:(u.take 4).takeWhile dE=dgs u:=rfl;simp only[drop_zero,Nat.sub_zero,Nat.zero_add] at x3;rw[ed,ec] at x3;have hY:∀ a b n,cut 58 u=some (a,b)->rdN a=some n->1<=(dgs u).length/\(dgs u).length < u.length/\u[(dgs u).length]?=some 58/\(∃ c,u[0]?=some c/\c≠48)/\cV (dgs u) 0<=999:=by
  intro a b n h1 h2;obtain⟨f1,f2,f3,f4,f5,f6,f7,f8⟩:=EK h1 h2;rw[f1,f2];exact⟨f3,f4,f5,f6,f8⟩
 have hN:1<=(dgs u).length->u[(dgs u).length]?=some 58->∀ c,u[0]?=some c->c≠48->cV (dgs u) 0<=999->∃ a,cut 58 u=some (a,u.drop ((dgs u).length+1))/\rdN a=some (cV (dgs u) 0):=fun h1 h2 c h3 h4 h5=>⟨_,LI h1 h2 h3 h4 h5⟩
 generalize cV (dgs u) 0=v at x3 hY hN;generalize (dgs u).length=d at x3 hY hN;have h0d:(0:Int)<=(d:Int):=by omega
 by_cases g0:d=0
 ·have d0:(d:Int)=0:=by omega
  have hno:rdT T=none:=gW hK (fun a b n h1 h2=>by
   obtain⟨f1,f2,f3,f4,f5⟩:=hY a b n h1 h2
   omega)
  refine⟨0,[],0,0,?_,fun _=>rfl,fun x hx=>(by rw[hno] at hx;cases hx)⟩;refine aA d9 rfl rfl rfl ?_;simp only[d9,go_sem,x2,n1,sl,t0,n47,tl,su,x3,h0d,d0]
 have d0:¬ (d:Int)=0:=by omega
 by_cases g1:u.length<=d
 ·have d1:(u.length:Int)<=(d:Int):=by omega
  have hno:rdT T=none:=gW hK (fun a b n h1 h2=>by
   obtain⟨f1,f2,f3,f4,f5⟩:=hY a b n h1 h2
   omega)
  refine⟨0,[],0,0,?_,fun _=>rfl,fun x hx=>(by rw[hno] at hx;cases hx)⟩;refine aA d9 rfl rfl rfl ?_;simp only[d9,go_sem,x2,n1,sl,t0,n47,tl,su,x3,h0d,d0,d1]
 have d1:¬ (u.length:Int)<=(d:Int):=by omega
 obtain⟨c0,hc0⟩:=at0 (u:=u) (by omega);by_cases g2:c0=48
 ·have n48:(c0.toNat:Int)=48:=by rw[g2];rfl
  have hno:rdT T=none:=gW hK (fun a b n h1 h2=>by
   obtain⟨f1,f2,f3,f4,f5⟩:=hY a b n h1 h2
   obtain⟨c,f6,f7⟩:=f4;rw[hc0] at f6;cases f6;exact f7 g2)
  refine⟨0,[],0,0,?_,fun _=>rfl,fun x hx=>(by rw[hno] at hx;cases hx)⟩;refine aA d9 rfl rfl rfl ?_;simp only[d9,go_sem,x2,n1,sl,t0,n47,tl,su,x3,h0d,d0,d1,hc0,n48]
 have n48:¬ (c0.toNat:Int)=48:=cH (d:=48) g2;by_cases g3:999 < v
 ·have d3:(999:Int) < (v:Int):=by omega
  have hno:rdT T=none:=gW hK (fun a b n h1 h2=>by
   obtain⟨f1,f2,f3,f4,f5⟩:=hY a b n h1 h2
   omega)
  refine⟨0,[],0,0,?_,fun _=>rfl,fun x hx=>(by rw[hno] at hx;cases hx)⟩;refine aA d9 rfl rfl rfl ?_;simp only[d9,go_sem,x2,n1,sl,t0,n47,tl,su,x3,h0d,d0,d1,hc0,n48,d3]
 have d3:¬ (999:Int) < (v:Int):=by omega
 obtain⟨c1,hc1⟩:∃ c,u[d]?=some c:=⟨u[d],getElem?_eq_getElem (by omega)⟩
 by_cases g4:c1=58
 ·have n58:(c1.toNat:Int)=58:=by rw[g4];rfl
  rw[g4] at hc1;obtain⟨a,q1,q2⟩:=hN (by omega) hc1 c0 hc0 g2 (by omega);have hgo:=EP hK q1 q2;have n58:(((58:UInt8).toNat:Nat):Int)=58:=rfl;have w1:IntKind.i64.wrap ((d:Int)+1)=((d+1:Nat):Int):=by rw[w64 (by omega) (by omega)];rfl
  have w2:IntKind.i64.wrap (((T.length+1:Nat):Int)+1)=((T.length+2:Nat):Int):=by rw[w64 (by omega) (by omega)];omega
  have sd:bO true 0 (.str u) (some (.int .i64 ((d+1:Nat):Int))) none=some (.str (u.drop (d+1))):=by
   rw[kK _ _ _ _ (by omega) (by omega),Int.toNat_natCast]
  generalize u.drop (d+1)=b at *;have hb:rtV 3 b=cW b:=rfl;rw[hb] at hgo;have hca:=c74 b;cases hv:cW b with
  | true =>
   rw[hv] at hca hgo;rw[if_pos rfl] at hgo;refine⟨3,b,v,((T.length+2:Nat):Int),?_,fun q=>(by rw[hgo] at q;cases q),fun x hx=>(by rw[hgo] at hx;cases hx;exact⟨rfl,rfl⟩)⟩;refine aA d9 rfl rfl rfl ?_;simp only[d9,go_sem,x2,n1,sl,t0,n47,tl,su,x3,h0d,d0,d1,hc0,n48,d3,hc1,n58,w1,w2,sd,hca]
  | false =>
   rw[hv] at hca hgo;rw[if_neg (by simp)] at hgo;refine⟨0,[],0,0,?_,fun _=>rfl,fun x hx=>(by rw[hgo] at hx;cases hx)⟩;refine aA d9 rfl rfl rfl ?_;simp only[d9,go_sem,x2,n1,sl,t0,n47,tl,su,x3,h0d,d0,d1,hc0,n48,d3,hc1,n58,w1,w2,sd,hca]
 ·have n58:¬ (c1.toNat:Int)=58:=cH (d:=58) g4
  have hno:rdT T=none:=gW hK (fun a b n h1 h2=>by
   obtain⟨f1,f2,f3,f4,f5⟩:=hY a b n h1 h2
   rw[hc1] at f3;cases f3;exact g4 rfl)
  refine⟨0,[],0,0,?_,fun _=>rfl,fun x hx=>(by rw[hno] at hx;cases hx)⟩;refine aA d9 rfl rfl rfl ?_;simp only[d9,go_sem,x2,n1,sl,t0,n47,tl,su,x3,h0d,d0,d1,hc0,n48,d3,hc1,n58]
theorem c85B (T w S:Bs) (hS:S=60 :: (T++62 :: w)) (hcut:cut 62 (T++62 :: w)=some (T,w)) (hr:T.length+w.length<=100000) (hT:∃ u c,T=u++[47]/\T[0]?=some c/\c≠47):∃ (k:Int) (s:Bs) (i:Int) (n:Int),G0 138 [.str S] []=some (.tup [.agg [.int .i64 k,.str s,.int .i64 i],.int .i64 n],[])/\(rdT T=none->n=0)/\∀ x,rdT T=some x->(k,s,i)=x/\n=((T.length+2:Nat):Int):=by
 obtain⟨u,c,hT,hc47,hne⟩:=hT;have n47:(((47:UInt8).toNat:Nat):Int)=47:=rfl;have c47:¬ (c.toNat:Int)=47:=cH (d:=47) hne;have hTl:T.length=u.length+1:=by rw[hT];simp
 have tl:(0:Int) < (T.length:Int):=by omega
 have wl:IntKind.i64.wrap ((T.length:Int) - 1)=(u.length:Int):=by rw[w64 (by omega) (by omega)];omega
 have u0:(0:Int)<=(u.length:Int):=by omega
 have tll:T[u.length]?=some 47:=by rw[hT];simp
 have su:bO true 0 (.str T) none (some (.int .i64 (u.length:Int)))=some (.str u):=by
  rw[pJ _ _ _ _ (by omega) (by omega),Int.toNat_natCast,hT,take_left]
 have hK:rtK T=(4,u):=by
  unfold rtK;rw[head?_eq_getElem?,hc47,if_neg (by simpa using hne),hT,getLast?_concat,if_pos rfl,dropLast_concat]
 have x2:=(l85 (60 :: (T++62 :: w)) (by simp;omega) (T++62 :: w) [60] rfl).2 T w hcut;have e1:(([60]:Bs).length:Int)=1:=rfl;have ex:(([60]:Bs).length+T.length:Nat)=T.length+1:=by simp;omega
 rw[ex,e1,<- hS] at x2;have sl:=sl1 60 T (62 :: w);rw[<- hS] at sl;have hSl:S.length=T.length+2+w.length:=by rw[hS];simp;omega
 have n1:¬ (S.length:Int)<=((T.length+1:Nat):Int):=by omega
 have lp:=fun e=>RG u (by omega) e 4 true 4 0 0 rfl (by decide)
 have x3:=lp ((T.length+1:Nat):Int);have ec:((0:Nat):Int)=0:=rfl;have ed:(u.take 4).takeWhile dE=dgs u:=rfl;simp only[drop_zero,Nat.sub_zero,Nat.zero_add] at x3;rw[ed,ec] at x3;have hY:∀ a b n,cut 58 u=some (a,b)->rdN a=some n->1<=(dgs u).length/\(dgs u).length < u.length/\u[(dgs u).length]?=some 58/\(∃ c,u[0]?=some c/\c≠48)/\cV (dgs u) 0<=999:=by
  intro a b n h1 h2;obtain⟨f1,f2,f3,f4,f5,f6,f7,f8⟩:=EK h1 h2;rw[f1,f2];exact⟨f3,f4,f5,f6,f8⟩
 have hN:1<=(dgs u).length->u[(dgs u).length]?=some 58->∀ c,u[0]?=some c->c≠48->cV (dgs u) 0<=999->∃ a,cut 58 u=some (a,u.drop ((dgs u).length+1))/\rdN a=some (cV (dgs u) 0):=fun h1 h2 c h3 h4 h5=>⟨_,LI h1 h2 h3 h4 h5⟩
 generalize cV (dgs u) 0=v at x3 hY hN;generalize (dgs u).length=d at x3 hY hN;have h0d:(0:Int)<=(d:Int):=by omega
 by_cases g0:d=0
 ·have d0:(d:Int)=0:=by omega
  have hno:rdT T=none:=gW hK (fun a b n h1 h2=>by
   obtain⟨f1,f2,f3,f4,f5⟩:=hY a b n h1 h2
   omega)
  refine⟨0,[],0,0,?_,fun _=>rfl,fun x hx=>(by rw[hno] at hx;cases hx)⟩;refine aA d9 rfl rfl rfl ?_;simp only[d9,go_sem,x2,n1,sl,hc47,c47,n47,tl,wl,u0,tll,su,x3,h0d,d0]
 have d0:¬ (d:Int)=0:=by omega
 by_cases g1:u.length<=d
 ·have d1:(u.length:Int)<=(d:Int):=by omega
  have hno:rdT T=none:=gW hK (fun a b n h1 h2=>by
   obtain⟨f1,f2,f3,f4,f5⟩:=hY a b n h1 h2
   omega)
  refine⟨0,[],0,0,?_,fun _=>rfl,fun x hx=>(by rw[hno] at hx;cases hx)⟩;refine aA d9 rfl rfl rfl ?_;simp only[d9,go_sem,x2,n1,sl,hc47,c47,n47,tl,wl,u0,tll,su,x3,h0d,d0,d1]
 have d1:¬ (u.length:Int)<=(d:Int):=by omega
 obtain⟨c0,hc0⟩:=at0 (u:=u) (by omega);by_cases g2:c0=48
 ·have n48:(c0.toNat:Int)=48:=by rw[g2];rfl
  have hno:rdT T=none:=gW hK (fun a b n h1 h2=>by
   obtain⟨f1,f2,f3,f4,f5⟩:=hY a b n h1 h2
   obtain⟨c,f6,f7⟩:=f4;rw[hc0] at f6;cases f6;exact f7 g2)
  refine⟨0,[],0,0,?_,fun _=>rfl,fun x hx=>(by rw[hno] at hx;cases hx)⟩;refine aA d9 rfl rfl rfl ?_;simp only[d9,go_sem,x2,n1,sl,hc47,c47,n47,tl,wl,u0,tll,su,x3,h0d,d0,d1,hc0,n48]
 have n48:¬ (c0.toNat:Int)=48:=cH (d:=48) g2;by_cases g3:999 < v
 ·have d3:(999:Int) < (v:Int):=by omega
  have hno:rdT T=none:=gW hK (fun a b n h1 h2=>by
   obtain⟨f1,f2,f3,f4,f5⟩:=hY a b n h1 h2
   omega)
  refine⟨0,[],0,0,?_,fun _=>rfl,fun x hx=>(by rw[hno] at hx;cases hx)⟩;refine aA d9 rfl rfl rfl ?_;simp only[d9,go_sem,x2,n1,sl,hc47,c47,n47,tl,wl,u0,tll,su,x3,h0d,d0,d1,hc0,n48,d3]
 have d3:¬ (999:Int) < (v:Int):=by omega
 obtain⟨c1,hc1⟩:∃ c,u[d]?=some c:=⟨u[d],getElem?_eq_getElem (by omega)⟩
 by_cases g4:c1=58
 ·have n58:(c1.toNat:Int)=58:=by rw[g4];rfl
  rw[g4] at hc1;obtain⟨a,q1,q2⟩:=hN (by omega) hc1 c0 hc0 g2 (by omega);have hgo:=EP hK q1 q2;have n58:(((58:UInt8).toNat:Nat):Int)=58:=rfl;have w1:IntKind.i64.wrap ((d:Int)+1)=((d+1:Nat):Int):=by rw[w64 (by omega) (by omega)];rfl
  have w2:IntKind.i64.wrap (((T.length+1:Nat):Int)+1)=((T.length+2:Nat):Int):=by rw[w64 (by omega) (by omega)];omega
  have sd:bO true 0 (.str u) (some (.int .i64 ((d+1:Nat):Int))) none=some (.str (u.drop (d+1))):=by
   rw[kK _ _ _ _ (by omega) (by omega),Int.toNat_natCast]
  generalize u.drop (d+1)=b at *;have hb:rtV 4 b=isC b:=rfl;rw[hb] at hgo;have hca:=c75 b;cases hv:isC b with
  | true =>
   rw[hv] at hca hgo;rw[if_pos rfl] at hgo;refine⟨4,b,v,((T.length+2:Nat):Int),?_,fun q=>(by rw[hgo] at q;cases q),fun x hx=>(by rw[hgo] at hx;cases hx;exact⟨rfl,rfl⟩)⟩;refine aA d9 rfl rfl rfl ?_;simp only[d9,go_sem,x2,n1,sl,hc47,c47,n47,tl,wl,u0,tll,su,x3,h0d,d0,d1,hc0,n48,d3,hc1,n58,w1,w2,sd,hca]
  | false =>
   rw[hv] at hca hgo;rw[if_neg (by simp)] at hgo;refine⟨0,[],0,0,?_,fun _=>rfl,fun x hx=>(by rw[hgo] at hx;cases hx)⟩;refine aA d9 rfl rfl rfl ?_;simp only[d9,go_sem,x2,n1,sl,hc47,c47,n47,tl,wl,u0,tll,su,x3,h0d,d0,d1,hc0,n48,d3,hc1,n58,w1,w2,sd,hca]
 ·have n58:¬ (c1.toNat:Int)=58:=cH (d:=58) g4
  have hno:rdT T=none:=gW hK (fun a b n h1 h2=>by
   obtain⟨f1,f2,f3,f4,f5⟩:=hY a b n h1 h2
   rw[hc1] at f3;cases f3;exact g4 rfl)
  refine⟨0,[],0,0,?_,fun _=>rfl,fun x hx=>(by rw[hno] at hx;cases hx)⟩;refine aA d9 rfl rfl rfl ?_;simp only[d9,go_sem,x2,n1,sl,hc47,c47,n47,tl,wl,u0,tll,su,x3,h0d,d0,d1,hc0,n48,d3,hc1,n58]
theorem c85C (T w S:Bs) (hS:S=60 :: (T++62 :: w)) (hcut:cut 62 (T++62 :: w)=some (T,w)) (hr:T.length+w.length<=100000) (hT:∃ c d,T[0]?=some c/\c≠47/\T[T.length - 1]?=some d/\T.getLast?=some d/\d≠47):∃ (k:Int) (s:Bs) (i:Int) (n:Int),G0 138 [.str S] []=some (.tup [.agg [.int .i64 k,.str s,.int .i64 i],.int .i64 n],[])/\(rdT T=none->n=0)/\∀ x,rdT T=some x->(k,s,i)=x/\n=((T.length+2:Nat):Int):=by
 obtain⟨c,d',hc47,hne,hd47,hdl,hdne⟩:=hT;have c47:¬ (c.toNat:Int)=47:=cH (d:=47) hne;have d47:¬ (d'.toNat:Int)=47:=cH (d:=47) hdne;have ul:1<=T.length:=by
  cases T with
  | nil=>cases hc47
  | cons=>simp
 have tl:(0:Int) < (T.length:Int):=by omega
 have wl:IntKind.i64.wrap ((T.length:Int) - 1)=((T.length - 1:Nat):Int):=by rw[w64 (by omega) (by omega)];omega
 have u0:(0:Int)<=((T.length - 1:Nat):Int):=by omega
 have hK:rtK T=(2,T):=by
  unfold rtK;rw[head?_eq_getElem?,hc47,if_neg (by simpa using hne),hdl,if_neg (by simpa using hdne)]
 have x2:=(l85 (60 :: (T++62 :: w)) (by simp;omega) (T++62 :: w) [60] rfl).2 T w hcut;have e1:(([60]:Bs).length:Int)=1:=rfl;have ex:(([60]:Bs).length+T.length:Nat)=T.length+1:=by simp;omega
 rw[ex,e1,<- hS] at x2;have sl:=sl1 60 T (62 :: w);rw[<- hS] at sl;have hSl:S.length=T.length+2+w.length:=by rw[hS];simp;omega
 have n1:¬ (S.length:Int)<=((T.length+1:Nat):Int):=by omega
 have lp:=fun e=>RG T (by omega) e 2 false 4 0 0 rfl (by decide)
 have x3:=lp ((T.length+1:Nat):Int);have ec:((0:Nat):Int)=0:=rfl;have ed:(T.take 4).takeWhile dE=dgs T:=rfl;simp only[drop_zero,Nat.sub_zero,Nat.zero_add] at x3;rw[ed,ec] at x3;have hY:∀ a b n,cut 58 T=some (a,b)->rdN a=some n->1<=(dgs T).length/\(dgs T).length < T.length/\T[(dgs T).length]?=some 58/\(∃ c,T[0]?=some c/\c≠48)/\cV (dgs T) 0<=999:=by
  intro a b n h1 h2;obtain⟨f1,f2,f3,f4,f5,f6,f7,f8⟩:=EK h1 h2;rw[f1,f2];exact⟨f3,f4,f5,f6,f8⟩
 have hN:1<=(dgs T).length->T[(dgs T).length]?=some 58->∀ c,T[0]?=some c->c≠48->cV (dgs T) 0<=999->∃ a,cut 58 T=some (a,T.drop ((dgs T).length+1))/\rdN a=some (cV (dgs T) 0):=fun h1 h2 c h3 h4 h5=>⟨_,LI h1 h2 h3 h4 h5⟩
 generalize cV (dgs T) 0=v at x3 hY hN;generalize (dgs T).length=d at x3 hY hN;have h0d:(0:Int)<=(d:Int):=by omega
 by_cases g0:d=0
 ·have d0:(d:Int)=0:=by omega
  have hno:rdT T=none:=gW hK (fun a b n h1 h2=>by
   obtain⟨f1,f2,f3,f4,f5⟩:=hY a b n h1 h2
   omega)
  refine⟨0,[],0,0,?_,fun _=>rfl,fun x hx=>(by rw[hno] at hx;cases hx)⟩;refine aA d9 rfl rfl rfl ?_;simp only[d9,go_sem,x2,n1,sl,hc47,c47,d47,hd47,tl,wl,u0,x3,h0d,d0]
 have d0:¬ (d:Int)=0:=by omega
 by_cases g1:T.length<=d
 ·have d1:(T.length:Int)<=(d:Int):=by omega
  have hno:rdT T=none:=gW hK (fun a b n h1 h2=>by
   obtain⟨f1,f2,f3,f4,f5⟩:=hY a b n h1 h2
   omega)
  refine⟨0,[],0,0,?_,fun _=>rfl,fun x hx=>(by rw[hno] at hx;cases hx)⟩;refine aA d9 rfl rfl rfl ?_;simp only[d9,go_sem,x2,n1,sl,hc47,c47,d47,hd47,tl,wl,u0,x3,h0d,d0,d1]
 have d1:¬ (T.length:Int)<=(d:Int):=by omega
 by_cases g2:c=48
 ·have n48:(c.toNat:Int)=48:=by rw[g2];rfl
  have hno:rdT T=none:=gW hK (fun a b n h1 h2=>by
   obtain⟨f1,f2,f3,f4,f5⟩:=hY a b n h1 h2
   obtain⟨c',f6,f7⟩:=f4;rw[hc47] at f6;cases f6;exact f7 g2)
  refine⟨0,[],0,0,?_,fun _=>rfl,fun x hx=>(by rw[hno] at hx;cases hx)⟩;refine aA d9 rfl rfl rfl ?_;simp only[d9,go_sem,x2,n1,sl,hc47,c47,d47,hd47,tl,wl,u0,x3,h0d,d0,d1,n48]
 have n48:¬ (c.toNat:Int)=48:=cH (d:=48) g2;by_cases g3:999 < v
 ·have d3:(999:Int) < (v:Int):=by omega
  have hno:rdT T=none:=gW hK (fun a b n h1 h2=>by
   obtain⟨f1,f2,f3,f4,f5⟩:=hY a b n h1 h2
   omega)
  refine⟨0,[],0,0,?_,fun _=>rfl,fun x hx=>(by rw[hno] at hx;cases hx)⟩;refine aA d9 rfl rfl rfl ?_;simp only[d9,go_sem,x2,n1,sl,hc47,c47,d47,hd47,tl,wl,u0,x3,h0d,d0,d1,n48,d3]
 have d3:¬ (999:Int) < (v:Int):=by omega
 obtain⟨c1,hc1⟩:∃ c,T[d]?=some c:=⟨T[d],getElem?_eq_getElem (by omega)⟩
 by_cases g4:c1=58
 ·have n58:(c1.toNat:Int)=58:=by rw[g4];rfl
  rw[g4] at hc1;obtain⟨a,q1,q2⟩:=hN (by omega) hc1 c hc47 g2 (by omega);have hgo:=EP hK q1 q2;have n58:(((58:UInt8).toNat:Nat):Int)=58:=rfl;have w1:IntKind.i64.wrap ((d:Int)+1)=((d+1:Nat):Int):=by rw[w64 (by omega) (by omega)];rfl
  have w2:IntKind.i64.wrap (((T.length+1:Nat):Int)+1)=((T.length+2:Nat):Int):=by rw[w64 (by omega) (by omega)];omega
  have sd:bO true 0 (.str T) (some (.int .i64 ((d+1:Nat):Int))) none=some (.str (T.drop (d+1))):=by
   rw[kK _ _ _ _ (by omega) (by omega),Int.toNat_natCast]
  generalize T.drop (d+1)=b at *;have hb:rtV 2 b=isC b:=rfl;rw[hb] at hgo;have hca:=c75 b;cases hv:isC b with
  | true =>
   rw[hv] at hca hgo;rw[if_pos rfl] at hgo;refine⟨2,b,v,((T.length+2:Nat):Int),?_,fun q=>(by rw[hgo] at q;cases q),fun x hx=>(by rw[hgo] at hx;cases hx;exact⟨rfl,rfl⟩)⟩;refine aA d9 rfl rfl rfl ?_;simp only[d9,go_sem,x2,n1,sl,hc47,c47,d47,hd47,tl,wl,u0,x3,h0d,d0,d1,n48,d3,hc1,n58,w1,w2,sd,hca]
  | false =>
   rw[hv] at hca hgo;rw[if_neg (by simp)] at hgo;refine⟨0,[],0,0,?_,fun _=>rfl,fun x hx=>(by rw[hgo] at hx;cases hx)⟩;refine aA d9 rfl rfl rfl ?_;simp only[d9,go_sem,x2,n1,sl,hc47,c47,d47,hd47,tl,wl,u0,x3,h0d,d0,d1,n48,d3,hc1,n58,w1,w2,sd,hca]
 ·have n58:¬ (c1.toNat:Int)=58:=cH (d:=58) g4
  have hno:rdT T=none:=gW hK (fun a b n h1 h2=>by
   obtain⟨f1,f2,f3,f4,f5⟩:=hY a b n h1 h2
   rw[hc1] at f3;cases f3;exact g4 rfl)
  refine⟨0,[],0,0,?_,fun _=>rfl,fun x hx=>(by rw[hno] at hx;cases hx)⟩;refine aA d9 rfl rfl rfl ?_;simp only[d9,go_sem,x2,n1,sl,hc47,c47,d47,hd47,tl,wl,u0,x3,h0d,d0,d1,n48,d3,hc1,n58]
theorem c85 (r:Bs) (hr:r.length<=90000):∃ (k:Int) (s:Bs) (i:Int) (n:Int),G0 138 [.str (60 :: r)] []=some (.tup [.agg [.int .i64 k,.str s,.int .i64 i],.int .i64 n],[])/\(rd (60 :: r)=none->n=0)/\∀ x m,rd (60 :: r)=some (x,m)->(k,s,i)=x/\n=((m:Nat):Int):=by
 have e:rd (60 :: r)=(match cut 62 r with
  | some (t,_)=>(rdT t).map fun x=>(x,t.length+2)
  | none=>none):=rfl
 cases hc:cut 62 r with
 | none =>
  rw[hc] at e;have e:rd (60 :: r)=none:=e;have x2:=(l85 (60 :: r) (by simp;omega) r [60] rfl).1 hc;have e1:(([60]:Bs).length:Int)=1:=rfl;rw[e1] at x2;refine⟨0,[],0,0,?_,fun _=>rfl,fun x m hx=>(by rw[e] at hx;cases hx)⟩;refine aA d9 rfl rfl rfl ?_;generalize (60 :: r:Bs)=S at x2;simp only[d9,go_sem,x2,Int.le_refl]
 | some p =>
  obtain⟨t,w⟩:=p;rw[hc] at e;have e:rd (60 :: r)=(rdT t).map fun x=>(x,t.length+2):=e
  obtain⟨hs,_⟩:=cN.1 hc;subst hs;have hl:t.length+w.length<=100000:=by simp at hr;omega
  have key:∃ (k:Int) (s:Bs) (i:Int) (n:Int),G0 138 [.str (60 :: (t++62 :: w))] []=some (.tup [.agg [.int .i64 k,.str s,.int .i64 i],.int .i64 n],[])/\(rdT t=none->n=0)/\∀ x,rdT t=some x->(k,s,i)=x/\n=((t.length+2:Nat):Int):=by
   cases ht:t with
   | nil =>
    subst ht;refine⟨0,[],0,0,?_,fun _=>rfl,fun x hx=>(by cases hx)⟩;have x2:=(l85 (60 :: ([]++62 :: w)) (by simp at hl ⊢;omega) ([]++62 :: w) [60] rfl).2 [] w hc;have e1:(([60]:Bs).length:Int)=1:=rfl;have ex:(([60]:Bs).length+([]:Bs).length:Nat)=1:=rfl;rw[ex,e1] at x2;have ec:((1:Nat):Int)=1:=rfl;rw[ec] at x2;have sl:=sl1 60 [] (62 :: w);have ec2:((([]:Bs).length+1:Nat):Int)=1:=rfl;rw[ec2] at sl;have hSl:(60 :: ([]++62 :: w):Bs).length=2+w.length:=by simp;omega
    generalize (60 :: ([]++62 :: w):Bs)=S at x2 sl hSl;have n1:¬ (S.length:Int)<=1:=by omega
    have lp:=RG [] (by simp) 1 2 false 4 0 0 rfl (by decide);simp only[drop_zero,Nat.sub_zero,Nat.zero_add,take_nil,takeWhile_nil,length_nil,cV] at lp;have ec:((0:Nat):Int)=0:=rfl;rw[ec] at lp;refine aA d9 rfl rfl rfl ?_;simp only[d9,go_sem,x2,n1,sl,lp,Int.lt_irrefl]
   | cons c r =>
    rw[<- ht];have t0:t[0]?=some c:=by rw[ht];rfl
    by_cases h1:c=47
    ·subst h1
     exact c85A t w _ rfl hc hl ⟨r,ht⟩
    ·have hne:t≠[]:=by rw[ht];simp
     by_cases h2:t.getLast?=some 47
     ·refine c85B t w _ rfl hc hl ⟨t.dropLast,c,?_,t0,h1⟩
      have:=dropLast_concat_getLast hne
      rw[getLast?_eq_some_getLast hne] at h2;simp only[Option.some.injEq] at h2;rw[h2] at this;exact this.symm
     ·obtain⟨d,d1,d2⟩:=A4 (s:=t) (by rw[ht];simp)
      exact c85C t w _ rfl hc hl ⟨c,d,t0,h1,d1,d2,fun q=>h2 (by rw[d2,q])⟩
  obtain⟨k,s,i,n,y1,y2,y3⟩:=key;refine⟨k,s,i,n,y1,fun q=>?_,fun x m hx=>?_⟩
  ·rw[e] at q;exact y2 (Option.map_eq_none_iff.1 q)
  ·rw[e] at hx
   obtain⟨x',h1,h2⟩:=Option.map_eq_some_iff.1 hx;simp only[Prod.mk.injEq] at h2;obtain⟨rfl,rfl⟩:=h2;exact y3 _ h1
end Go.Av
namespace Go.Av
open Go.Nt
theorem zDF {c:Nat} (h:c < 256):((UInt8.ofNat c).toNat:Int)=(c:Int):=by simp only[UInt8.toNat_ofNat'];omega
theorem l56b (s:Bs) (hs:s.length<=1000000):∀ (f c:Nat),c+f=256 ->
  ((∀ d,c<=d->d < 256->¬ wrt (UInt8.ofNat d) <+: s)/\aC G0 pB (ST [(0,.str s),(2,.loc 2 0),(5,.int .i64 c),(7,.bool false),(38,.bool false)] [(2,some [.int .i64 0,.str [],.int .i64 0])] [])=some (.ex 3,ST [(0,.str s),(2,.loc 2 0),(5,.int .i64 256),(7,.bool false),(38,.bool false),(47,.bool false)] [(2,some [.int .i64 0,.str [],.int .i64 0])] [])) \/
  (∃ d l',d < 256/\wrt (UInt8.ofNat d) <+: s/\aC G0 pB (ST [(0,.str s),(2,.loc 2 0),(5,.int .i64 c),(7,.bool false),(38,.bool false)] [(2,some [.int .i64 0,.str [],.int .i64 0])] [])=some (.ret,ST l' [(2,some [.int .i64 1,.str [UInt8.ofNat d],.int .i64 0])] [])/\aE .any l' 3=.int .i64 ((wrt (UInt8.ofNat d)).length:Nat)/\aE .any l' 2=.loc 2 0)
 | 0,c,h=>by
  have:c=256:=by omega
  subst this
  left
  refine⟨fun d h1 h2=>(by omega),?_⟩;have e:((256:Nat):Int)=256:=rfl;rw[e,aB (L:=pB) rfl];simp only[go_sem,Int.lt_irrefl]
 | f+1,c,h=>by
  have hc:c < 256:=by omega
  have h1:(c:Int) < 256:=by omega
  have hw:IntKind.i64.wrap ((c:Int)+1)=((c+1:Nat):Int):=by rw[w64 (by omega) (by omega)];rfl
  have w8:IntKind.u8.wrap (c:Int)=(c:Int):=wu8 (by omega) (by omega);have h78:G0 130 [.int .u8 (c:Int)] []=some (.str (wrt (UInt8.ofNat c)),[]):=by
   have:=c78 (UInt8.ofNat c)
   have e:bI (UInt8.ofNat c)=(c:Int):=zDF hc;rw[e] at this;exact this
  have ht:(c:Int).toNat=c:=Int.toNat_natCast c;have ih:=l56b s hs f (c+1) (by omega);have nx:¬ wrt (UInt8.ofNat c) <+: s->aC G0 pB (ST [(0,.str s),(2,.loc 2 0),(5,.int .i64 c),(7,.bool false),(38,.bool false)] [(2,some [.int .i64 0,.str [],.int .i64 0])] [])=aC G0 pB (ST [(0,.str s),(2,.loc 2 0),(5,.int .i64 ((c+1:Nat):Int)),(7,.bool false),(38,.bool false)] [(2,some [.int .i64 0,.str [],.int .i64 0])] []):=by
   intro hp
   conv=>lhs;rw[aB (L:=pB) rfl]
   generalize wrt (UInt8.ofNat c)=w at *;by_cases hl:w.length<=s.length
   ·have hl':(w.length:Int)<=(s.length:Int):=by omega
    have sl:bO true 0 (.str s) none (some (.int .i64 (w.length:Int)))=some (.str (s.take w.length)):=by
     rw[pJ _ _ _ _ (by omega) (by omega),Int.toNat_natCast]
    have e:(s.take w.length == w)=false:=by
     simp only[beq_eq_false_iff_ne,ne_eq];intro q;exact hp (prefix_iff_eq_take.2 q.symm)
    simp only[go_sem,h1,w8,h78,hl',sl,e,hw]
   ·have hl':¬ (w.length:Int)<=(s.length:Int):=by omega
    simp only[go_sem,h1,w8,h78,hl',hw]
  by_cases hp:wrt (UInt8.ofNat c) <+: s
  ·right
   have hl:=hp.length_le;have e:=prefix_iff_eq_take.1 hp;obtain⟨w,hww⟩:∃ w,w=wrt (UInt8.ofNat c):=⟨_,rfl⟩
   rw[<- hww] at h78 hp hl e;refine⟨c,?_⟩;rw[<- hww];refine Exists.intro ?_ ⟨hc,hp,?_,?_⟩
   rotate_left 1
   ·rw[aB (L:=pB) rfl]
    have hl':(w.length:Int)<=(s.length:Int):=by omega
    have sl:bO true 0 (.str s) none (some (.int .i64 (w.length:Int)))=some (.str w):=by
     rw[pJ _ _ _ _ (by omega) (by omega),Int.toNat_natCast,<- e]
    simp only[go_sem,h1,w8,h78,hl',sl,hw,uJ,bR,ht,beq_self_eq_true];rfl
   ·exact⟨rfl,rfl⟩
  ·rw[nx hp]
   rcases ih with ⟨i1,i2⟩ | ⟨d,l',i1,i2,i3,i4⟩
   ·left
    refine⟨fun d h1 h2=>?_,i2⟩;by_cases q:d=c
    ·subst q;exact hp
    ·exact i1 d (by omega) h2
   ·right
    exact⟨d,l',i1,i2,i3,i4⟩
theorem l56a (s:Bs) (hs:s.length<=1000000):∀ (f k:Nat),k+f=26->1<=k ->
  ((∀ j,k<=j->j<=25->s[j]?=some 125->cW ((s.take j).drop 1)=true->False)/\∃ K:Int,aC G0 nG (ST [(0,.str s),(2,.loc 2 0),(4,.int .i64 k),(7,.bool true)] [(2,some [.int .i64 0,.str [],.int .i64 0])] [])=some (.ex 1,ST [(0,.str s),(2,.loc 2 0),(4,.int .i64 K),(7,.bool true),(18,.bool false)] [(2,some [.int .i64 0,.str [],.int .i64 0])] [])) \/
  (∃ j l',1<=j/\s[j]?=some 125/\cW ((s.take j).drop 1)=true/\aC G0 nG (ST [(0,.str s),(2,.loc 2 0),(4,.int .i64 k),(7,.bool true)] [(2,some [.int .i64 0,.str [],.int .i64 0])] [])=some (.ret,ST l' [(2,some [.int .i64 5,.str ((s.take j).drop 1),.int .i64 0])] [])/\aE .any l' 3=.int .i64 ((j+1:Nat):Int)/\aE .any l' 2=.loc 2 0)
 | f,k,h,hk=>by
  by_cases h1:s.length<=k
  ·left
   refine⟨fun j a b c d=>(by rw[getElem?_eq_none (by omega)] at c;cases c),(k:Int),?_⟩;have h1':¬ (k:Int) < (s.length:Int):=by omega
   rw[aB (L:=nG) rfl];simp only[go_sem,h1']
  have h1':(k:Int) < (s.length:Int):=by omega
  cases f with
  | zero =>
   left
   refine⟨fun j a b c d=>(by omega),(k:Int),?_⟩;have h2':¬ (k:Int)<=25:=by omega
   rw[aB (L:=nG) rfl];simp only[go_sem,h1',h2']
  | succ f =>
   have h2':(k:Int)<=25:=by omega
   have h0:(0:Int)<=(k:Int):=by omega
   have hw:IntKind.i64.wrap ((k:Int)+1)=((k+1:Nat):Int):=by rw[w64 (by omega) (by omega)];rfl
   obtain⟨c,h5,hd⟩:=wD (s:=s) (i:=k) (by omega);have ih:=l56a s hs f (k+1) (by omega) (by omega);have sl:bO true 0 (.str s) (some (.int .i64 1)) (some (.int .i64 (k:Int)))=some (.str ((s.take k).drop 1)):=by
    rw[pK _ _ _ _ _ _ (by decide) (by omega) (by omega),Int.toNat_natCast];rfl
   have hca:=c74 ((s.take k).drop 1);by_cases hc:c=125/\cW ((s.take k).drop 1)=true
   ·obtain⟨rfl,hn⟩:=hc
    rw[hn] at hca
    right
    have n125:(((125:UInt8).toNat:Nat):Int)=125:=rfl;obtain⟨T,hT⟩:∃ T,T=(s.take k).drop 1:=⟨_,rfl⟩
    rw[<- hT] at hca hn sl;refine⟨k,?_⟩;rw[<- hT];refine Exists.intro ?_ ⟨hk,h5,hn,?_,?_⟩
    rotate_left 1
    ·rw[aB (L:=nG) rfl]
     simp only[go_sem,h1',h2',h0,h5,n125,sl,hca,hw];rfl
    ·exact⟨rfl,rfl⟩
   ·have nx:aC G0 nG (ST [(0,.str s),(2,.loc 2 0),(4,.int .i64 k),(7,.bool true)] [(2,some [.int .i64 0,.str [],.int .i64 0])] [])=aC G0 nG (ST [(0,.str s),(2,.loc 2 0),(4,.int .i64 ((k+1:Nat):Int)),(7,.bool true)] [(2,some [.int .i64 0,.str [],.int .i64 0])] []):=by
     conv=>lhs;rw[aB (L:=nG) rfl]
     by_cases hc1:c=125
     ·subst hc1
      have n125:(((125:UInt8).toNat:Nat):Int)=125:=rfl;have hn:cW ((s.take k).drop 1)=false:=by
       cases q:cW ((s.take k).drop 1) with
       | false=>rfl
       | true=>exact absurd ⟨rfl,q⟩ hc
      rw[hn] at hca;simp only[go_sem,h1',h2',h0,h5,n125,sl,hca,hw]
     ·have n125:¬ (c.toNat:Int)=125:=cH (d:=125) hc1
      simp only[go_sem,h1',h2',h0,h5,n125,hw]
    rw[nx];rcases ih with ⟨i1,i2⟩ | i
    ·left
     refine⟨fun j a b e d=>?_,i2⟩;by_cases q:j=k
     ·subst q
      rw[h5] at e;cases e;exact hc ⟨rfl,d⟩
     ·exact i1 j (by omega) b e d
    ·right;exact i
theorem c56 (c:UInt8) (r:Bs) (hr:r.length<=90000):∃ (k:Int) (s:Bs) (i:Int) (n:Int),G0 111 [.str (c :: r)] []=some (.tup [.agg [.int .i64 k,.str s,.int .i64 i],.int .i64 n],[])/\(rd (c :: r)=none->n=0)/\∀ x m,rd (c :: r)=some (x,m)->(k,s,i)=x/\n=((m:Nat):Int):=by
 have g0:(c :: r)[0]?=some c:=rfl;by_cases h1:c=123
 ·subst h1
  have n1:(((123:UInt8).toNat:Nat):Int)=123:=rfl;rcases l56a (123 :: r) (by simp;omega) 25 1 rfl (by omega) with ⟨i1,K,i2⟩ | ⟨j,l',i0,i1,i2,i3,i4,i5⟩
  ·have hno:rd (123 :: r)=none:=EO (fun k a b c d=>i1 k a b c d)
   refine⟨0,[],0,0,?_,fun _=>rfl,fun x m hx=>(by rw[hno] at hx;cases hx)⟩;have ec:((1:Nat):Int)=1:=rfl;rw[ec] at i2;refine aA yG rfl rfl rfl ?_;generalize (123 :: r:Bs)=S at *;simp only[yG,go_sem,g0,n1,i2]
  ·have hs:(123 :: r:Bs)=123 :: (((123 :: r:Bs).take j).drop 1++125 :: (123 :: r:Bs).drop (j+1)):=by
    have hj:j < (123 :: r:Bs).length:=by
     by_cases q:j < (123 :: r:Bs).length
     ·exact q
     ·rw[getElem?_eq_none (by omega)] at i1;cases i1
    have e1:=drop_eq_getElem_cons hj;rw[getElem?_eq_getElem hj] at i1;simp only[Option.some.injEq] at i1;rw[i1] at e1;obtain⟨j',rfl⟩:∃ j',j=j'+1:=⟨j - 1,by omega⟩
    rw[take_succ_cons,drop_succ_cons,drop_zero,<- e1,drop_succ_cons,take_append_drop]
   have hrd:=CD (r:=(123 :: r:Bs).drop (j+1)) i2;rw[<- hs] at hrd;have hl:(((123 :: r:Bs).take j).drop 1).length+2=j+1:=by
    have hj:j < (123 :: r:Bs).length:=by
     by_cases q:j < (123 :: r:Bs).length
     ·exact q
     ·rw[getElem?_eq_none (by omega)] at i1;cases i1
    rw[length_drop,length_take];omega
   rw[hl] at hrd;refine⟨5,((123 :: r:Bs).take j).drop 1,0,((j+1:Nat):Int),?_,fun q=>(by rw[hrd] at q;cases q),fun x m hx=>(by rw[hrd] at hx;cases hx;exact⟨rfl,rfl⟩)⟩;have ec:((1:Nat):Int)=1:=rfl;rw[ec] at i3;refine aA yG rfl rfl rfl ?_;generalize ((123 :: r:Bs).take j).drop 1=T at *;generalize (123 :: r:Bs)=S at *;simp only[yG,go_sem,g0,n1,i3,i4,i5]
 have n1:¬ (c.toNat:Int)=123:=cH (d:=123) h1;by_cases h2:c=60
 ·subst h2
  have n2:(((60:UInt8).toNat:Nat):Int)=60:=rfl;obtain⟨k,s,i,n,y1,y2,y3⟩:=c85 r hr;refine⟨k,s,i,n,?_,y2,y3⟩;refine aA yG rfl rfl rfl ?_;generalize (60 :: r:Bs)=S at *;simp only[yG,go_sem,g0,n2,y1]
 have n2:¬ (c.toNat:Int)=60:=cH (d:=60) h2;rcases l56b (c :: r) (by simp;omega) 256 0 rfl with ⟨i1,i2⟩ | ⟨d,l',i1,i2,i3,i4,i5⟩
 ·have hno:rd (c :: r)=none:=JI h2 h1 (fun d q=>by
   have hd:=d.toNat_lt
   have:=i1 d.toNat (by omega) (by omega)
   rw[UInt8.ofNat_toNat] at this
   exact this q)
  refine⟨0,[],0,0,?_,fun _=>rfl,fun x m hx=>(by rw[hno] at hx;cases hx)⟩;have ec:((0:Nat):Int)=0:=rfl;rw[ec] at i2;refine aA yG rfl rfl rfl ?_;generalize (c :: r:Bs)=S at *;simp only[yG,go_sem,g0,n1,n2,i2]
 ·obtain⟨w,hw⟩:=i2
  have hrd:=QO hw.symm;refine⟨1,[UInt8.ofNat d],0,((wrt (UInt8.ofNat d)).length:Nat),?_,fun q=>(by rw[hrd] at q;cases q),fun x m hx=>(by rw[hrd] at hx;cases hx;exact⟨rfl,rfl⟩)⟩;have ec:((0:Nat):Int)=0:=rfl;rw[ec] at i3;refine aA yG rfl rfl rfl ?_;generalize (c :: r:Bs)=S at *;simp only[yG,go_sem,g0,n1,n2,i3,i4,i5]
theorem L3 {f:List Tk} {x:Tk} (hw:wfX x):pn f x=Nt.put f x:=by
 obtain⟨k,s,i⟩:=x;unfold pn;by_cases hk:k=1
 ·subst hk
  rcases hw with ⟨_,⟨c,h2⟩,h3⟩ | ⟨h1,_⟩ | ⟨h1,_⟩ | ⟨h1,_⟩
  ·simp only[] at h2 h3
   subst h2 h3;rw[if_pos rfl,if_neg (by simp)]
  ·simp at h1
  ·simp at h1
  ·simp at h1
 ·rw[if_neg hk,rV hk]
theorem H7 {x:Tk} {m:Nat} {s:Bs} (h:rd s=some (x,m)):x.2.1.length<=s.length:=by
 obtain⟨hw,h2,r,h3⟩:=kL h;have hl:=congrArg List.length h3;rw[length_append] at hl;obtain⟨k,t,i⟩:=x;simp only[];rcases hw with ⟨rfl,⟨c,rfl⟩,rfl⟩ | ⟨rfl,_⟩ | ⟨rfl | rfl,_⟩ | ⟨rfl,_⟩
 ·have:1<=(elt ((1:Int),[c],(0:Int))).length:=by
   rw[oT]
   have:=KF c
   cases q:wrt c with
   | nil=>exact absurd q this
   | cons=>simp
  simp only[length_singleton];omega
 ·simp [elt] at hl;omega
 ·simp [elt] at hl;omega
 ·simp [elt] at hl;omega
 ·simp [elt] at hl;omega
theorem l36 (s:Bs) (hs:s.length<=50000):∀ (k a:Nat) (f:List Tk) (n:Nat) (b:Bool),s.length<=a+k->a<=s.length->VL f->n=len f->f.length<=512->n<=1024-> tot f<=a ->
  ((prS f a n (s.drop a)).2.2=0->∃ b' n',aC G0 mH (ST [(0,.str s),(5,.sl (mdn b) 3 (tks f)),(6,.int .i64 a),(7,.int .i64 n)] [] [])=some (.ex 0,ST [(0,.str s),(5,.sl (mdn b') 3 (tks (prS f a n (s.drop a)).1)),(6,.int .i64 s.length),(7,.int .i64 n'),(15,.bool false)] [] [])) /\
  ((prS f a n (s.drop a)).2.2≠0->∃ l' m',aC G0 mH (ST [(0,.str s),(5,.sl (mdn b) 3 (tks f)),(6,.int .i64 a),(7,.int .i64 n)] [] [])=some (.ret,ST l' m' [])/\aE .any l' 2=.sl .full 3 []/\aE .any l' 3=.int .i64 ((prS f a n (s.drop a)).2.1:Nat)/\aE .any l' 4=.int .i64 (prS f a n (s.drop a)).2.2)
 | k,a,f,n,b,h1,h2,hv,hn,hf,hn2,htot=>by
  by_cases he:a=s.length
  ·subst he
   rw[drop_length,rX];refine⟨fun _=>⟨b,n,?_⟩,fun q=>absurd rfl q⟩;rw[aB (L:=mH) rfl];simp only[go_sem,Int.lt_irrefl]
  cases k with
  | zero=>omega
  | succ k =>
  have h4:(a:Int) < (s.length:Int):=by omega
  have hsl:bO true 0 (.str s) (some (.int .i64 (a:Int))) none=some (.str (s.drop a)):=by
   rw[kK _ _ _ _ (by omega) (by omega),Int.toNat_natCast]
  obtain⟨c,r,hcr⟩:∃ c r,s.drop a=c :: r:=by
   cases hd:s.drop a with
   | nil=>have:=congrArg List.length hd;rw[length_drop] at this;simp at this;omega
   | cons c r=>exact⟨c,r,rfl⟩
  have hrl:r.length+1=s.length - a:=by
   have:=congrArg List.length hcr;rw[length_drop] at this;simp at this;omega
  obtain⟨kk,t,id,nn,y1,y2,y3⟩:=c56 c r (by omega);rw[<- hcr] at y1 y2 y3;cases hrd:rd (s.drop a) with
  | none =>
   have y2:=y2 hrd;subst y2;rw[rW (by rw[hcr];simp) hrd];refine⟨fun q=>(by simp at q),fun _=>?_⟩;refine Exists.intro ?_ (Exists.intro ?_ (And.intro ?_ ?_))
   rotate_left 2
   ·rw[aB (L:=mH) rfl]
    simp only[go_sem,h4,hsl,y1];rfl
   ·exact⟨rfl,rfl,rfl⟩
  | some p =>
   obtain⟨x,mm⟩:=p;obtain⟨e1,e2⟩:=y3 x mm hrd;subst e2;obtain⟨hw,_,_,_⟩:=kL hrd;obtain⟨m1,m2,_,_⟩:=pN hrd;have hxl:=H7 hrd;rw[length_drop] at m2 hxl;have hw0:¬ (mm:Int)=0:=by omega
   rw[iZ hrd];subst e1;simp only[] at hxl;have h48:=c48 f (by omega) (BU hv) kk t id;have h37:=N6 hv (kk,t,id) (by omega) (by simp only[];omega);rw[L3 hw] at h37;simp only[] at h37;obtain⟨t1,t2⟩:=jU f (kk,t,id);rw[L3 hw] at t1 t2;simp only[] at t1;have wn:IntKind.i64.wrap ((n:Int)+1)=((n+1:Nat):Int):=by rw[w64 (by omega) (by omega)];rfl
   by_cases hc:kk≠1/\chk f (kk,t,id)≠0
   ·rw[if_pos hc]
    have hne:=hc.2;have hk1:=hc.1;refine⟨fun q=>absurd q hc.2,fun _=>?_⟩;generalize chk f (kk,t,id)=e at h48 hne;refine Exists.intro ?_ (Exists.intro ?_ (And.intro ?_ ?_))
    rotate_left 2
    ·rw[aB (L:=mH) rfl]
     simp only[go_sem,h4,hsl,y1,hw0,h48,hne,hk1,cE];rfl
    ·exact⟨rfl,rfl,rfl⟩
   ·rw[if_neg hc]
    have hpl:(Nt.put f (kk,t,id)).length<=1000:=by omega
    by_cases hl:512 < (Nt.put f (kk,t,id)).length\/1024 < n+1
    ·rw[if_pos hl]
     refine⟨fun q=>(by simp at q),fun _=>?_⟩;generalize hP:Nt.put f (kk,t,id)=P at *;by_cases hk1:kk=1
     ·subst hk1
      by_cases g1:(512:Int) < (P.length:Int)
      ·refine Exists.intro ?_ (Exists.intro ?_ (And.intro ?_ ?_))
       rotate_left 2
       ·rw[aB (L:=mH) rfl]
        simp only[go_sem,h4,hsl,y1,hw0,h37,cE,aD,g1,wn];rfl
       ·exact⟨rfl,rfl,rfl⟩
      ·have g2:(1024:Int) < ((n+1:Nat):Int):=by omega
       refine Exists.intro ?_ (Exists.intro ?_ (And.intro ?_ ?_))
       rotate_left 2
       ·rw[aB (L:=mH) rfl]
        simp only[go_sem,h4,hsl,y1,hw0,h37,cE,aD,g1,g2,wn];rfl
       ·exact⟨rfl,rfl,rfl⟩
     ·have h00:chk f (kk,t,id)=0:=Classical.byContradiction fun q=>hc ⟨hk1,q⟩
      rw[h00] at h48;by_cases g1:(512:Int) < (P.length:Int)
      ·refine Exists.intro ?_ (Exists.intro ?_ (And.intro ?_ ?_))
       rotate_left 2
       ·rw[aB (L:=mH) rfl]
        simp only[go_sem,h4,hsl,y1,hw0,h37,h48,hk1,cE,aD,g1,wn];rfl
       ·exact⟨rfl,rfl,rfl⟩
      ·have g2:(1024:Int) < ((n+1:Nat):Int):=by omega
       refine Exists.intro ?_ (Exists.intro ?_ (And.intro ?_ ?_))
       rotate_left 2
       ·rw[aB (L:=mH) rfl]
        simp only[go_sem,h4,hsl,y1,hw0,h37,h48,hk1,cE,aD,g1,g2,wn];rfl
       ·exact⟨rfl,rfl,rfl⟩
    ·rw[if_neg hl]
     obtain⟨p1,p2,_⟩:=AP (x:=(kk,t,id)) hv hw hc hn;have hw1:IntKind.i64.wrap ((a:Int)+(mm:Int))=((a+mm:Nat):Int):=by rw[w64 (by omega) (by omega)];rfl
     have hlt:t.length<=mm:=by
      obtain⟨_,q2,r',q3⟩:=kL hrd
      have:=qW hw []
      rw[append_nil] at this
      have:=H7 this
      simp only[] at this;omega
     have ih:=l36 s hs k (a+mm) (Nt.put f (kk,t,id)) (n+1) true (by omega) (by omega) p1 p2.symm (by omega) (by omega) (by omega);rw[drop_drop];have step:aC G0 mH (ST [(0,.str s),(5,.sl (mdn b) 3 (tks f)),(6,.int .i64 a),(7,.int .i64 n)] [] [])=aC G0 mH (ST [(0,.str s),(5,.sl (mdn true) 3 (tks (Nt.put f (kk,t,id)))),(6,.int .i64 ((a+mm:Nat):Int)),(7,.int .i64 ((n+1:Nat):Int))] [] []):=by
      generalize hP:Nt.put f (kk,t,id)=P at *;have g1:¬ (512:Int) < (P.length:Int):=by omega
      have g2:¬ (1024:Int) < ((n+1:Nat):Int):=by omega
      have em:mdn true=.no:=rfl
      conv=>lhs;rw[aB (L:=mH) rfl]
      by_cases hk1:kk=1
      ·subst hk1
       simp only[go_sem,h4,hsl,y1,hw0,h37,cE,aD,g1,g2,wn,hw1,em]
      ·have h00:chk f (kk,t,id)=0:=Classical.byContradiction fun q=>hc ⟨hk1,q⟩
       rw[h00] at h48;simp only[go_sem,h4,hsl,y1,hw0,h37,h48,hk1,cE,aD,g1,g2,wn,hw1,em]
     rw[step];exact ih
theorem c36 (s:Bs) (hs:s.length<=50000):G0 85 [.str s] []=some (.tup [.sl .no 3 (tks (aM s).1),.int .i64 ((aM s).2.1:Nat),.int .i64 (aM s).2.2],[]):=by
 obtain⟨x1,x2⟩:=l36 s hs s.length 0 [] 0 false (by omega) (by omega) rfl rfl (by simp) (by omega) (by rw[cO];omega);rw[drop_zero] at x1 x2;have e0:prS [] 0 0 s=aM s:=rfl;rw[e0] at x1 x2;have ec:((0:Nat):Int)=0:=rfl;have em:mdn false=.full:=rfl;rw[ec,em,eB] at x1 x2;refine aA F85 rfl rfl rfl ?_;by_cases h:(aM s).2.2=0
 ·obtain⟨b',n',y3⟩:=x1 h
  have hb:(aM s).2.1=0:=by
   obtain⟨g,b,e⟩:∃ g b,aM s=(g,b,0):=⟨(aM s).1,(aM s).2.1,by rw[<- h]⟩
   have:=(eV e).2.2
   rw[e];exact this
  rw[h,hb];simp only[F85,go_sem,y3,cE]
 ·obtain⟨l',m',y1,y2,y3,y4⟩:=x2 h
  have hg:(aM s).1=[]:=by
   obtain⟨g,b,e,he⟩:∃ g b e,aM s=(g,b,e):=⟨(aM s).1,(aM s).2.1,(aM s).2.2,rfl⟩
   have:=(yY he (by rw[he] at h;exact h)).2.1
   rw[he];exact this
  rw[hg];simp only[F85,go_sem,y1,y2,y3,y4,eB]
end Go.Av
namespace Go.Av
open Go.Nt
theorem l22 (a b:List Tk) (hab:a.length=b.length) (ha:a.length<=4611686018427387904):∀ (k i:Nat),i+k=a.length ->
  (a.drop i=b.drop i->aC G0 qR (ST [(0,.sl .no 3 (tks a)),(1,.sl .no 3 (tks b)),(10,.bool false),(12,.int .i64 a.length),(13,.int .i64 i)] [] [])=some (.ex 0,ST [(0,.sl .no 3 (tks a)),(1,.sl .no 3 (tks b)),(10,.bool false),(12,.int .i64 a.length),(13,.int .i64 a.length),(14,.bool false)] [] [])) /\
  (a.drop i≠b.drop i->∃ l',aC G0 qR (ST [(0,.sl .no 3 (tks a)),(1,.sl .no 3 (tks b)),(10,.bool false),(12,.int .i64 a.length),(13,.int .i64 i)] [] [])=some (.ret,ST l' [] [])/\aE .any l' 4=.bool false)
 | 0,i,h=>by
  have:i=a.length:=by omega
  subst this;refine⟨fun _=>?_,fun q=>absurd (by rw[drop_length,hab,drop_length]) q⟩;rw[aB (L:=qR) rfl];simp only[go_sem,Int.lt_irrefl]
 | k+1,i,h=>by
  have hi:i < a.length:=by omega
  have h4:(i:Int) < (a.length:Int):=by omega
  have h0:(0:Int)<=(i:Int):=by omega
  have hw:=wI (i:=i) (by omega)
  have hg:a[i]?=some a[i]:=getElem?_eq_getElem hi;have hd:a.drop i=a[i] :: a.drop (i+1):=drop_eq_getElem_cons hi;generalize a[i]=T at hg hd;have hg2:b[i]?=some b[i]:=getElem?_eq_getElem (by omega);have hd2:b.drop i=b[i] :: b.drop (i+1):=drop_eq_getElem_cons (by omega);generalize b[i]=U at hg2 hd2;have hr:=dH hg;have hr2:=dH hg2;have ih:=l22 a b hab ha k (i+1) (by omega);rw[hd,hd2];obtain⟨k1,s1,i1⟩:=T;obtain⟨k2,s2,i2⟩:=U;simp only[] at hr hr2;by_cases hE:((k1,s1,i1):Tk)=(k2,s2,i2)
  ·cases hE
   have e:(s1 == s1)=true:=by simp
   have step:aC G0 qR (ST [(0,.sl .no 3 (tks a)),(1,.sl .no 3 (tks b)),(10,.bool false),(12,.int .i64 a.length),(13,.int .i64 i)] [] [])=aC G0 qR (ST [(0,.sl .no 3 (tks a)),(1,.sl .no 3 (tks b)),(10,.bool false),(12,.int .i64 a.length),(13,.int .i64 ((i+1:Nat):Int))] [] []):=by
    conv=>lhs;rw[aB (L:=qR) rfl]
    simp only[go_sem,h4,h0,hr,hr2,hw,e]
   rw[step];refine⟨fun q=>ih.1 (by injection q),fun q=>ih.2 (fun z=>q (by rw[z]))⟩
  ·refine⟨fun q=>absurd (by injection q) hE,fun _=>?_⟩
   by_cases e1:k1=k2
   ·subst e1
    by_cases e2:s1=s2
    ·subst e2
     have e3:¬ i1=i2:=fun q=>hE (by rw[q])
     have e:(s1 == s1)=true:=by simp
     refine Exists.intro ?_ (And.intro ?_ ?_)
     rotate_left 1
     ·rw[aB (L:=qR) rfl]
      simp only[go_sem,h4,h0,hr,hr2,hw,e,e3];rfl
     ·rfl
    ·have e:(s1 == s2)=false:=by simpa using e2
     refine Exists.intro ?_ (And.intro ?_ ?_)
     rotate_left 1
     ·rw[aB (L:=qR) rfl]
      simp only[go_sem,h4,h0,hr,hr2,hw,e,Bool.false_and,Bool.and_false];rfl
     ·rfl
   ·refine Exists.intro ?_ (And.intro ?_ ?_)
    rotate_left 1
    ·rw[aB (L:=qR) rfl]
     simp only[go_sem,h4,h0,hr,hr2,hw,e1,decide_false,Bool.false_and,Bool.and_false];rfl
    ·rfl
theorem c22 (a b:List Tk) (ha:a.length<=4611686018427387904):G0 79 [.sl .no 3 (tks a),.sl .no 3 (tks b)] []=some (.bool (decide (a=b)),[]):=by
 refine aA F79 rfl rfl rfl ?_;by_cases hab:a.length=b.length
 ·have hab':(a.length:Int)=(b.length:Int):=by omega
  obtain⟨x1,x2⟩:=l22 a b hab ha a.length 0 (by omega);have ec:((0:Nat):Int)=0:=rfl;rw[drop_zero,drop_zero,ec] at x1 x2;by_cases h:a=b
  ·rw[decide_eq_true h]
   simp only[F79,go_sem,aD,hab',x1 h];rw[hab'] at x1;simp only[F79,go_sem,aD,x1 h]
  ·rw[decide_eq_false h]
   obtain⟨l',y1,y2⟩:=x2 h;rw[hab'] at y1;simp only[F79,go_sem,aD,hab',y1,y2]
 ·have hab':¬ (a.length:Int)=(b.length:Int):=by omega
  have h:¬ a=b:=fun q=>hab (by rw[q])
  rw[decide_eq_false h];simp only[F79,go_sem,aD,hab']
theorem VC {f:List Tk}:∀ t∈f,t.2.1.length<=tot f:=by
 induction f with
 | nil=>intro t ht;cases ht
 | cons a f ih =>
  intro t ht;rw[bH];rcases mem_cons.1 ht with rfl | h
  ·omega
  ·have:=ih t h;omega
theorem UP {f:List Tk} {n:Nat} (h:tot f<=n) (hn:n<=gK):∀ t∈f,t.2.1.length<=gK:=fun t ht=>by have:=VC t ht;omega
end Go.Av
