/- Decimals of numbers up to 2^30, by strconv.Itoa and by the reference. No conditions. exchange.Format as a given contract. No conditions. exchange.Format as a given contract, and the table above it. No conditions. Decimal numbers and beginnings of texts, by both packages. No conditions. -/
import Derived.Test.YtmjfblcmbcfkcaaGreatDoorG2XC
import Derived.Test.YtmjfblcmbcfkcaaGreatDoorG2PG
import Derived.Test.YtmjfblcmbcfkcaaGreatDoorG2XL
import Derived.Test.YtmjfblcmbcfkcaaGreatDoorG2Sx
import Derived.Test.YtmjfblcmbcfkcaaGreatDoorG2XG
import Derived.Test.YtmjfblcmbcfkcaaGreatDoorG2XB
open List
set_option linter.unusedSimpArgs false
set_option linter.unusedVariables false
set_option linter.unusedSectionVars false
set_option maxRecDepth 100000
set_option maxHeartbeats 16000000
namespace Go.Av
open Go.Nt
theorem YE {n:Nat} (h:n<=999):Nt.dec n=dcN n:=by
 unfold Nt.dec;split
 ·rename_i q;rw[fJ q]
 ·rename_i q
  rw[aX q];split
  ·rename_i r;rw[fJ (by omega)];rfl
  ·rename_i r
   rw[aX (by omega),fJ (by omega),show n / 10 / 10=n / 100 by omega];rfl
theorem fN {n:Int} (h1:0<=n) (h2:n<=4294967295):IntKind.u64.wrap n=n:=by
 unfold IntKind.wrap;have e:IntKind.u64.bits=64:=rfl;simp only[e,IntKind.signed,Bool.false_and,Bool.false_eq_true,if_false];omega
theorem bV {n:Int} (h1:0<=n) (h2:n<=4294967295):IntKind.u32.wrap n=n:=by
 unfold IntKind.wrap;have e:IntKind.u32.bits=32:=rfl;simp only[e,IntKind.signed,Bool.false_and,Bool.false_eq_true,if_false];omega
theorem W0 (n:Nat) (hn:n<=4294967295) (t:Bs) (ht:t.length<=1000) :
  (n < 10->∃ l',aC G0 nR (ST [(0,.int .i64 n),(3,.str t)] [] [])=some (.ret,ST l' [] [])/\aE .any l' 2=.str (dig n :: t)) /\
  (10<=n->aC G0 nR (ST [(0,.int .i64 n),(3,.str t)] [] [])=aC G0 nR (ST [(0,.int .i64 ((n / 10:Nat):Int)),(3,.str (dig (n % 10) :: t))] [] [])):=by
 have w1:IntKind.i64.wrap (48+((n % 10:Nat):Int))=48+((n % 10:Nat):Int):=w64 (by omega) (by omega);have w2:IntKind.u8.wrap (48+((n % 10:Nat):Int))=48+((n % 10:Nat):Int):=wu8 (by omega) (by omega);have w3:IntKind.i64.wrap ((n / 10:Nat):Int)=((n / 10:Nat):Int):=w64 (by omega) (by omega);have hl:1+t.length<=140737488355328:=by omega
 refine⟨fun h=>?_,fun h=>?_⟩
 ·have e:n % 10=n:=by omega
  rw[e] at w1 w2;have e0:((n / 10:Nat):Int)=0:=by omega
  rw[e0] at w3;refine Exists.intro ?_ (And.intro ?_ ?_)
  rotate_left 1
  ·rw[aB (L:=nR) rfl]
   simp only[go_sem,O6,PD,e,e0,w1,w2,w3,uJ,bR,SF,hl];rfl
  ·rfl
 ·have e0:¬ ((n / 10:Nat):Int)=0:=by omega
  conv=>lhs;rw[aB (L:=nR) rfl]
  simp only[go_sem,O6,PD,e0,w1,w2,w3,uJ,bR,SF,hl]
theorem l46e:∀ (k n:Nat) (t:Bs),n < 10 ^ (k+1)->n<=4294967295->t.length+k<=1000->∃ l',aC G0 nR (ST [(0,.int .i64 n),(3,.str t)] [] [])=some (.ret,ST l' [] [])/\aE .any l' 2=.str (dcN n++t)
 | 0,n,t,h,hn,ht=>by
  have h:n < 10:=h;obtain⟨l',a,b⟩:=(W0 n hn t (by omega)).1 h;exact⟨l',a,by rw[fJ h];exact b⟩
 | k+1,n,t,h,hn,ht=>by
  by_cases q:n < 10
  ·obtain⟨l',a,b⟩:=(W0 n hn t (by omega)).1 q
   exact⟨l',a,by rw[fJ q];exact b⟩
  ·have:=(W0 n hn t (by omega)).2 (by omega)
   rw[this,aX q,append_assoc];exact l46e k (n / 10) (dig (n % 10) :: t) (by rw[Nat.pow_succ] at h;omega) (by omega) (by simp only[length_cons];omega)
theorem kDec (n:Nat) (hn:n<=4294967295):G0 23 [.int .i64 n] []=some (.str (dcN n),[]):=by
 have c:G0 46 [.int .i64 n] []=some (.str (dcN n),[]):=by
  obtain⟨l',a,b⟩:=l46e 9 n [] (by omega) hn (by simp);rw[append_nil] at b;refine aA F46 rfl rfl rfl ?_;simp only[F46,go_sem,a,b]
 have h0:¬ (n:Int) < 0:=by omega
 have h1:max (n:Int) 0=(n:Int):=by omega
 refine aA F23 rfl rfl rfl ?_;simp only[F23,go_sem,h0,h1,c]
theorem lenB:∀ x:Fin 256,1<=x.1->∃ v:Fin 9,oN[x.1]?=some (UInt8.ofNat v.1)/\1<=v.1/\2 ^ (v.1 - 1)<=x.1/\x.1 < 2 ^ v.1:=by decide +kernel
theorem IE {v:Nat} (h:v < 9):bI (UInt8.ofNat v)=(v:Int):=by
 unfold bI;simp only[UInt8.toNat_ofNat'];omega
theorem TZ (n:Nat) {s:Nat} (k:Nat) (e:(2:Int) ^ (min k 64)=(s:Int)) (h:0 < s):(n:Int).fdiv (2 ^ (min k 64))=((n / s:Nat):Int):=by
 rw[e,Int.fdiv_eq_ediv_of_nonneg _ (by omega)];rfl
theorem kLen (n:Nat) (h1:1<=n) (h2:n<=4294967295):∃ L:Nat,1<=L/\L<=32/\2 ^ (L - 1)<=n/\n < 2 ^ L/\G0 149 [.int .u64 n] []=some (.int .i64 L,[]):=by
 have a1:¬ (4294967296:Int)<=(n:Int):=by omega
 have s16:=fun n:Nat=>TZ n (s:=65536) 16 rfl (by decide)
 have s8:=fun n:Nat=>TZ n (s:=256) 8 rfl (by decide)
 have fin:∀ (s p x:Nat),x=n / p->p=2 ^ s->s<=24->1<=x->x < 256->∃ v:Nat,1<=v/\v<=8/\oN[x]?=some (UInt8.ofNat v)/\2 ^ (s+v - 1)<=n/\n < 2 ^ (s+v):=fun s p x e ep hs g1 g2=>by
  obtain⟨⟨v,hv⟩,q1,q2,q3,q4⟩:=lenB ⟨x,g2⟩ g1;refine⟨v,q2,by omega,q1,?_,?_⟩
  ·simp only at q3
   rw[show s+v - 1=s+(v - 1) by simp only at q2;omega,Nat.pow_add,<- ep];rw[e] at q3;have hp:0 < p:=by rw[ep];exact Nat.pow_pos (by decide)
   calc p*2 ^ (v - 1)<=p*(n / p):=Nat.mul_le_mul_left _ q3
    _<=n:=Nat.mul_div_le n p
  ·simp only at q4
   have hp:0 < p:=by rw[ep];exact Nat.pow_pos (by decide)
   rw[e] at q4;rw[Nat.pow_add,<- ep,Nat.mul_comm];exact (Nat.div_lt_iff_lt_mul hp).1 q4
 by_cases h3:n < 65536
 ·have a2:¬ (65536:Int)<=(n:Int):=by omega
  by_cases h4:n < 256
  ·have a3:¬ (256:Int)<=(n:Int):=by omega
   obtain⟨v,v1,v2,q,r1,r2⟩:=fin 0 1 n (by omega) rfl (by omega) h1 h4;have w:IntKind.u8.wrap (n:Int)=(n:Int):=wu8 (by omega) (by omega);have a4:(0:Int)<=(n:Int):=by omega
   have b:=IE (v:=v) (by omega);have w2:IntKind.i64.wrap (v:Int)=(v:Int):=w64 (by omega) (by omega);refine⟨v,v1,by omega,by simpa using r1,by simpa using r2,aA tK rfl rfl rfl ?_⟩;simp only[oN] at q;simp only[tK,go_sem,a1,a2,a3,w,a4,q,b,w2,Int.zero_add]
  ·have a3:(256:Int)<=(n:Int):=by omega
   obtain⟨v,v1,v2,q,r1,r2⟩:=fin 8 256 (n / 256) rfl rfl (by omega) (by omega) (by omega);have w:IntKind.u8.wrap ((n / 256:Nat):Int)=((n / 256:Nat):Int):=wu8 (by omega) (by omega);have a4:(0:Int)<=((n / 256:Nat):Int):=by omega
   have b:=IE (v:=v) (by omega);have w2:IntKind.i64.wrap (8+(v:Int))=((8+v:Nat):Int):=by rw[w64 (by omega) (by omega)];rfl
   have w0:IntKind.i64.wrap (v:Int)=(v:Int):=w64 (by omega) (by omega);refine⟨8+v,by omega,by omega,r1,r2,aA tK rfl rfl rfl ?_⟩;simp only[oN] at q;simp only[tK,go_sem,a1,a2,a3,s8,w,a4,q,b,w0,w2]
 ·have a2:(65536:Int)<=(n:Int):=by omega
  by_cases h4:n / 65536 < 256
  ·have a3:¬ (256:Int)<=((n / 65536:Nat):Int):=by omega
   obtain⟨v,v1,v2,q,r1,r2⟩:=fin 16 65536 (n / 65536) rfl rfl (by omega) (by omega) (by omega);have w:IntKind.u8.wrap ((n / 65536:Nat):Int)=((n / 65536:Nat):Int):=wu8 (by omega) (by omega);have a4:(0:Int)<=((n / 65536:Nat):Int):=by omega
   have b:=IE (v:=v) (by omega);have w2:IntKind.i64.wrap (16+(v:Int))=((16+v:Nat):Int):=by rw[w64 (by omega) (by omega)];rfl
   have w0:IntKind.i64.wrap (v:Int)=(v:Int):=w64 (by omega) (by omega);refine⟨16+v,by omega,by omega,r1,r2,aA tK rfl rfl rfl ?_⟩;simp only[oN] at q;simp only[tK,go_sem,a1,a2,a3,s16,w,a4,q,b,w0,w2]
  ·have a3:(256:Int)<=((n / 65536:Nat):Int):=by omega
   obtain⟨v,v1,v2,q,r1,r2⟩:=fin 24 16777216 (n / 65536 / 256) (by omega) rfl (by omega) (by omega) (by omega);have w:IntKind.u8.wrap ((n / 65536 / 256:Nat):Int)=((n / 65536 / 256:Nat):Int):=wu8 (by omega) (by omega);have a4:(0:Int)<=((n / 65536 / 256:Nat):Int):=by omega
   have b:=IE (v:=v) (by omega);have w2:IntKind.i64.wrap (24+(v:Int))=((24+v:Nat):Int):=by rw[w64 (by omega) (by omega)];rfl
   have w0:IntKind.i64.wrap (v:Int)=(v:Int):=w64 (by omega) (by omega);refine⟨24+v,by omega,by omega,r1,r2,aA tK rfl rfl rfl ?_⟩;simp only[oN] at q;simp only[tK,go_sem,a1,a2,a3,s16,s8,w,a4,q,b,w0,w2]
theorem lgT:∀ L:Fin 33,7<=L.1->2<=L.1*78913 / 262144/\L.1*78913 / 262144<=9/\10 ^ (L.1*78913 / 262144 - 1)<=2 ^ (L.1 - 1)/\2 ^ L.1<=10 ^ (L.1*78913 / 262144+1):=by decide +kernel
theorem kDig (n:Nat) (h1:100<=n) (h2:n<=4294967295):∃ k:Nat,3<=k/\k<=10/\10 ^ (k - 1)<=n/\n < 10 ^ k/\G0 126 [.int .u64 n] []=some (.int .i64 k,[]):=by
 obtain⟨L,l1,l2,l3,l4,c1⟩:=kLen n (by omega) h2;have l7:7<=L:=by
  by_cases q:7<=L
  ·exact q
  ·have:2 ^ L<=2 ^ 6:=Nat.pow_le_pow_right (by decide) (by omega)
   omega
 obtain⟨t2,t9,p1,p2⟩:=lgT ⟨L,by omega⟩ l7;simp only at t2 t9 p1 p2;have c2:=YQ L (by omega) (by omega);have e2:(L:Int)*78913 / 262144=((L*78913 / 262144:Nat):Int):=by omega
 rw[e2] at c2;generalize L*78913 / 262144=t at *;have hle:10 ^ (t - 1)<=n:=Nat.le_trans p1 l3;have hlt:n < 10 ^ (t+1):=Nat.lt_of_lt_of_le l4 p2;have key:∀ t':Nat,t=t'->2<=t'->(t'=2\/t'=3\/t'=4\/t'=5\/t'=6\/t'=7\/t'=8\/t'=9)->(n < 10 ^ t'->G0 126 [.int .u64 n] []=some (.int .i64 t',[]))/\(10 ^ t'<=n->G0 126 [.int .u64 n] []=some (.int .i64 ((t'+1:Nat):Int),[])):=by
  intro t' ht h2 hc;subst ht;rcases hc with q | q | q | q | q | q | q | q<;>subst q<;>refine⟨fun g=>?_,fun g=>?_⟩
  ·have a:¬ (100:Int)<=(n:Int):=by simp only[Nat.reducePow] at g;omega
   refine aA fM rfl rfl rfl ?_;simp only[fM,go_sem,c1,c2,a,nT]
  ·have a:(100:Int)<=(n:Int):=by simp only[Nat.reducePow] at g;omega
   refine aA fM rfl rfl rfl ?_;simp only[fM,go_sem,c1,c2,a,nT]
  ·have a:¬ (1000:Int)<=(n:Int):=by simp only[Nat.reducePow] at g;omega
   refine aA fM rfl rfl rfl ?_;simp only[fM,go_sem,c1,c2,a,nT]
  ·have a:(1000:Int)<=(n:Int):=by simp only[Nat.reducePow] at g;omega
   refine aA fM rfl rfl rfl ?_;simp only[fM,go_sem,c1,c2,a,nT]
  ·have a:¬ (10000:Int)<=(n:Int):=by simp only[Nat.reducePow] at g;omega
   refine aA fM rfl rfl rfl ?_;simp only[fM,go_sem,c1,c2,a,nT]
  ·have a:(10000:Int)<=(n:Int):=by simp only[Nat.reducePow] at g;omega
   refine aA fM rfl rfl rfl ?_;simp only[fM,go_sem,c1,c2,a,nT]
  ·have a:¬ (100000:Int)<=(n:Int):=by simp only[Nat.reducePow] at g;omega
   refine aA fM rfl rfl rfl ?_;simp only[fM,go_sem,c1,c2,a,nT]
  ·have a:(100000:Int)<=(n:Int):=by simp only[Nat.reducePow] at g;omega
   refine aA fM rfl rfl rfl ?_;simp only[fM,go_sem,c1,c2,a,nT]
  ·have a:¬ (1000000:Int)<=(n:Int):=by simp only[Nat.reducePow] at g;omega
   refine aA fM rfl rfl rfl ?_;simp only[fM,go_sem,c1,c2,a,nT]
  ·have a:(1000000:Int)<=(n:Int):=by simp only[Nat.reducePow] at g;omega
   refine aA fM rfl rfl rfl ?_;simp only[fM,go_sem,c1,c2,a,nT]
  ·have a:¬ (10000000:Int)<=(n:Int):=by simp only[Nat.reducePow] at g;omega
   refine aA fM rfl rfl rfl ?_;simp only[fM,go_sem,c1,c2,a,nT]
  ·have a:(10000000:Int)<=(n:Int):=by simp only[Nat.reducePow] at g;omega
   refine aA fM rfl rfl rfl ?_;simp only[fM,go_sem,c1,c2,a,nT]
  ·have a:¬ (100000000:Int)<=(n:Int):=by simp only[Nat.reducePow] at g;omega
   refine aA fM rfl rfl rfl ?_;simp only[fM,go_sem,c1,c2,a,nT]
  ·have a:(100000000:Int)<=(n:Int):=by simp only[Nat.reducePow] at g;omega
   refine aA fM rfl rfl rfl ?_;simp only[fM,go_sem,c1,c2,a,nT]
  ·have a:¬ (1000000000:Int)<=(n:Int):=by simp only[Nat.reducePow] at g;omega
   refine aA fM rfl rfl rfl ?_;simp only[fM,go_sem,c1,c2,a,nT]
  ·have a:(1000000000:Int)<=(n:Int):=by simp only[Nat.reducePow] at g;omega
   refine aA fM rfl rfl rfl ?_;simp only[fM,go_sem,c1,c2,a,nT]
 have hk:=key t rfl t2 (by omega);by_cases g:n < 10 ^ t
 ·exact⟨t,by
   have:t≠2:=fun z=>by subst z;simp only[Nat.reducePow] at g;omega
   omega,by omega,hle,g,hk.1 g⟩
 ·exact⟨t+1,by omega,by omega,by simpa using Nat.le_of_not_lt g,hlt,hk.2 (by omega)⟩
theorem pfI (v:Nat) (h:v < 100):IntKind.u32.wrap ((v:Int)*2)=((v*2:Nat):Int)/\IntKind.u32.wrap (((v*2:Nat):Int)+1)=((v*2+1:Nat):Int)/\(0:Int)<=((v*2:Nat):Int)/\(0:Int)<=((v*2+1:Nat):Int)/\smS[v*2]?=some (dig (v / 10))/\smS[v*2+1]?=some (dig (v % 10)):=by
 refine⟨?_,?_,by omega,by omega,TY h,TX h⟩
 ·rw[bV (by omega) (by omega)];rfl
 ·rw[bV (by omega) (by omega)];rfl
theorem W8 (n:Int) (sh:LL):aC G0 eE (ST [(0,.ss 0 1 3 1),(1,.int .u64 n),(4,.int .i64 3)] [] sh)=some (.ex 0,ST [(0,.ss 0 1 3 1),(1,.int .u64 n),(4,.int .i64 3),(20,.bool false)] [] sh):=by
 rw[aB (L:=eE) rfl];simp only[go_sem]
theorem W7 (n:Int) (sh:LL):aC G0 eE (ST [(0,.ss 0 1 4 1),(1,.int .u64 n),(4,.int .i64 4)] [] sh)=some (.ex 0,ST [(0,.ss 0 1 4 1),(1,.int .u64 n),(4,.int .i64 4),(20,.bool false)] [] sh):=by
 rw[aB (L:=eE) rfl];simp only[go_sem]
theorem W6 (n:Int) (sh:LL):aC G0 eE (ST [(0,.ss 0 1 5 1),(1,.int .u64 n),(4,.int .i64 5)] [] sh)=some (.ex 0,ST [(0,.ss 0 1 5 1),(1,.int .u64 n),(4,.int .i64 5),(20,.bool false)] [] sh):=by
 rw[aB (L:=eE) rfl];simp only[go_sem]
theorem W5 (n:Int) (sh:LL):aC G0 eE (ST [(0,.ss 0 1 6 1),(1,.int .u64 n),(4,.int .i64 6)] [] sh)=some (.ex 0,ST [(0,.ss 0 1 6 1),(1,.int .u64 n),(4,.int .i64 6),(20,.bool false)] [] sh):=by
 rw[aB (L:=eE) rfl];simp only[go_sem]
theorem W4 (n:Int) (sh:LL):aC G0 eE (ST [(0,.ss 0 1 7 1),(1,.int .u64 n),(4,.int .i64 7)] [] sh)=some (.ex 0,ST [(0,.ss 0 1 7 1),(1,.int .u64 n),(4,.int .i64 7),(20,.bool false)] [] sh):=by
 rw[aB (L:=eE) rfl];simp only[go_sem]
def o24 (a b c d e f g h i j:Int):List AV:=[.int .u8 0,.int .u8 a,.int .u8 b,.int .u8 c,.int .u8 d,.int .u8 e,.int .u8 f,.int .u8 g,.int .u8 h,.int .u8 i,.int .u8 j,.int .u8 0,.int .u8 0,.int .u8 0,.int .u8 0,.int .u8 0,.int .u8 0,.int .u8 0,.int .u8 0,.int .u8 0,.int .u8 0,.int .u8 0,.int .u8 0,.int .u8 0]
theorem tmL (n m:Nat) (x:Int) (h:x=(m:Int)):((n:Int)).tmod x=((n % m:Nat):Int):=by rw[h,tm]
theorem tqL (n m:Nat) (x:Int) (h:x=(m:Int)):((n:Int)).tdiv x=((n / m:Nat):Int):=by rw[h,tq]
theorem OZ (x:Nat) (h:x < 10):IntKind.u32.wrap (48+(x:Int))=48+(x:Int)/\IntKind.u8.wrap (48+(x:Int))=bI (dig x):=by
 refine⟨bV (by omega) (by omega),?_⟩;rw[wu8 (by omega) (by omega)];unfold bI dig;simp only[UInt8.toNat_ofNat'];omega
theorem W3 (n:Nat) (h3:n<=4294967295):aC G0 eE (ST [(0,.ss 0 1 8 1),(1,.int .u64 n),(4,.int .i64 8)] [] [o24 0 0 0 0 0 0 0 0 0 0])=some (.ex 0,ST [(0,.ss 0 1 8 1),(1,.int .u64 ((n / 100000000:Nat):Int)),(4,.int .i64 0),(20,.bool false)] [] [o24 (bI (dig (n / 10000000 % 10))) (bI (dig (n / 1000000 % 10))) (bI (dig (n / 100000 % 10))) (bI (dig (n / 10000 % 10))) (bI (dig (n / 1000 % 10))) (bI (dig (n / 100 % 10))) (bI (dig (n / 10 % 10))) (bI (dig (n % 10))) 0 0]):=by
 have m8:=fun n:Nat=>tmL n 100000000 100000000 rfl
 have m4:=fun n:Nat=>tmL n 10000 10000 rfl
 have m2:=fun n:Nat=>tmL n 100 100 rfl
 have d8:=fun n:Nat=>tqL n 100000000 100000000 rfl
 have d4:=fun n:Nat=>tqL n 10000 10000 rfl
 have d2:=fun n:Nat=>tqL n 100 100 rfl
 obtain⟨p01,p02,p03,p04,p05,p06⟩:=pfI (n % 100000000 % 10000 % 100) (by omega);rw[show n % 100000000 % 10000 % 100 / 10=n / 10 % 10 by omega] at p05;rw[show n % 100000000 % 10000 % 100 % 10=n % 10 by omega] at p06;simp only[smS] at p05 p06;obtain⟨p11,p12,p13,p14,p15,p16⟩:=pfI (n % 100000000 % 10000 / 100) (by omega);rw[show n % 100000000 % 10000 / 100 / 10=n / 1000 % 10 by omega] at p15;rw[show n % 100000000 % 10000 / 100 % 10=n / 100 % 10 by omega] at p16;simp only[smS] at p15 p16;obtain⟨p21,p22,p23,p24,p25,p26⟩:=pfI (n % 100000000 / 10000 % 100) (by omega);rw[show n % 100000000 / 10000 % 100 / 10=n / 100000 % 10 by omega] at p25;rw[show n % 100000000 / 10000 % 100 % 10=n / 10000 % 10 by omega] at p26;simp only[smS] at p25 p26;obtain⟨p31,p32,p33,p34,p35,p36⟩:=pfI (n % 100000000 / 10000 / 100) (by omega);rw[show n % 100000000 / 10000 / 100 / 10=n / 10000000 % 10 by omega] at p35;rw[show n % 100000000 / 10000 / 100 % 10=n / 1000000 % 10 by omega] at p36;simp only[smS] at p35 p36;have w0:IntKind.u32.wrap ((n % 100000000:Nat):Int)=((n % 100000000:Nat):Int):=bV (by omega) (by omega);have w1:IntKind.u32.wrap ((n % 100000000 / 10000:Nat):Int)=((n % 100000000 / 10000:Nat):Int):=bV (by omega) (by omega);have w2:IntKind.u32.wrap ((n % 100000000 % 10000:Nat):Int)=((n % 100000000 % 10000:Nat):Int):=bV (by omega) (by omega);have w3:IntKind.u32.wrap ((n % 100000000 % 10000 / 100:Nat):Int)=((n % 100000000 % 10000 / 100:Nat):Int):=bV (by omega) (by omega);have w4:IntKind.u32.wrap ((n % 100000000 % 10000 % 100:Nat):Int)=((n % 100000000 % 10000 % 100:Nat):Int):=bV (by omega) (by omega);have w5:IntKind.u32.wrap ((n % 100000000 / 10000 / 100:Nat):Int)=((n % 100000000 / 10000 / 100:Nat):Int):=bV (by omega) (by omega);have w6:IntKind.u32.wrap ((n % 100000000 / 10000 % 100:Nat):Int)=((n % 100000000 / 10000 % 100:Nat):Int):=bV (by omega) (by omega);have w64a:IntKind.u64.wrap ((n / 100000000:Nat):Int)=((n / 100000000:Nat):Int):=fN (by omega) (by omega);have w64b:IntKind.u64.wrap ((n % 100000000:Nat):Int)=((n % 100000000:Nat):Int):=fN (by omega) (by omega);rw[aB (L:=eE) rfl];simp only[o24,go_sem,m8,m4,m2,d8,d4,d2,w64a,w64b,p01,p02,p03,p04,p05,p06,p11,p12,p13,p14,p15,p16,p21,p22,p23,p24,p25,p26,p31,p32,p33,p34,p35,p36,w0,w1,w2,w3,w4,w5,w6];rw[aB (L:=eE) rfl];simp only[go_sem]
theorem W2 (n:Nat) (h3:n<=4294967295):aC G0 eE (ST [(0,.ss 0 1 9 1),(1,.int .u64 n),(4,.int .i64 9)] [] [o24 0 0 0 0 0 0 0 0 0 0])=some (.ex 0,ST [(0,.ss 0 1 9 1),(1,.int .u64 ((n / 100000000:Nat):Int)),(4,.int .i64 1),(20,.bool false)] [] [o24 0 (bI (dig (n / 10000000 % 10))) (bI (dig (n / 1000000 % 10))) (bI (dig (n / 100000 % 10))) (bI (dig (n / 10000 % 10))) (bI (dig (n / 1000 % 10))) (bI (dig (n / 100 % 10))) (bI (dig (n / 10 % 10))) (bI (dig (n % 10))) 0]):=by
 have m8:=fun n:Nat=>tmL n 100000000 100000000 rfl
 have m4:=fun n:Nat=>tmL n 10000 10000 rfl
 have m2:=fun n:Nat=>tmL n 100 100 rfl
 have d8:=fun n:Nat=>tqL n 100000000 100000000 rfl
 have d4:=fun n:Nat=>tqL n 10000 10000 rfl
 have d2:=fun n:Nat=>tqL n 100 100 rfl
 obtain⟨p01,p02,p03,p04,p05,p06⟩:=pfI (n % 100000000 % 10000 % 100) (by omega);rw[show n % 100000000 % 10000 % 100 / 10=n / 10 % 10 by omega] at p05;rw[show n % 100000000 % 10000 % 100 % 10=n % 10 by omega] at p06;simp only[smS] at p05 p06;obtain⟨p11,p12,p13,p14,p15,p16⟩:=pfI (n % 100000000 % 10000 / 100) (by omega);rw[show n % 100000000 % 10000 / 100 / 10=n / 1000 % 10 by omega] at p15;rw[show n % 100000000 % 10000 / 100 % 10=n / 100 % 10 by omega] at p16;simp only[smS] at p15 p16;obtain⟨p21,p22,p23,p24,p25,p26⟩:=pfI (n % 100000000 / 10000 % 100) (by omega);rw[show n % 100000000 / 10000 % 100 / 10=n / 100000 % 10 by omega] at p25;rw[show n % 100000000 / 10000 % 100 % 10=n / 10000 % 10 by omega] at p26;simp only[smS] at p25 p26;obtain⟨p31,p32,p33,p34,p35,p36⟩:=pfI (n % 100000000 / 10000 / 100) (by omega);rw[show n % 100000000 / 10000 / 100 / 10=n / 10000000 % 10 by omega] at p35;rw[show n % 100000000 / 10000 / 100 % 10=n / 1000000 % 10 by omega] at p36;simp only[smS] at p35 p36;have w0:IntKind.u32.wrap ((n % 100000000:Nat):Int)=((n % 100000000:Nat):Int):=bV (by omega) (by omega);have w1:IntKind.u32.wrap ((n % 100000000 / 10000:Nat):Int)=((n % 100000000 / 10000:Nat):Int):=bV (by omega) (by omega);have w2:IntKind.u32.wrap ((n % 100000000 % 10000:Nat):Int)=((n % 100000000 % 10000:Nat):Int):=bV (by omega) (by omega);have w3:IntKind.u32.wrap ((n % 100000000 % 10000 / 100:Nat):Int)=((n % 100000000 % 10000 / 100:Nat):Int):=bV (by omega) (by omega);have w4:IntKind.u32.wrap ((n % 100000000 % 10000 % 100:Nat):Int)=((n % 100000000 % 10000 % 100:Nat):Int):=bV (by omega) (by omega);have w5:IntKind.u32.wrap ((n % 100000000 / 10000 / 100:Nat):Int)=((n % 100000000 / 10000 / 100:Nat):Int):=bV (by omega) (by omega);have w6:IntKind.u32.wrap ((n % 100000000 / 10000 % 100:Nat):Int)=((n % 100000000 / 10000 % 100:Nat):Int):=bV (by omega) (by omega);have w64a:IntKind.u64.wrap ((n / 100000000:Nat):Int)=((n / 100000000:Nat):Int):=fN (by omega) (by omega);have w64b:IntKind.u64.wrap ((n % 100000000:Nat):Int)=((n % 100000000:Nat):Int):=fN (by omega) (by omega);rw[aB (L:=eE) rfl];simp only[o24,go_sem,m8,m4,m2,d8,d4,d2,w64a,w64b,p01,p02,p03,p04,p05,p06,p11,p12,p13,p14,p15,p16,p21,p22,p23,p24,p25,p26,p31,p32,p33,p34,p35,p36,w0,w1,w2,w3,w4,w5,w6];rw[aB (L:=eE) rfl];simp only[go_sem]
theorem RJ (n:Nat) (h3:n<=4294967295):aC G0 eE (ST [(0,.ss 0 1 10 1),(1,.int .u64 n),(4,.int .i64 10)] [] [o24 0 0 0 0 0 0 0 0 0 0])=some (.ex 0,ST [(0,.ss 0 1 10 1),(1,.int .u64 ((n / 100000000:Nat):Int)),(4,.int .i64 2),(20,.bool false)] [] [o24 0 0 (bI (dig (n / 10000000 % 10))) (bI (dig (n / 1000000 % 10))) (bI (dig (n / 100000 % 10))) (bI (dig (n / 10000 % 10))) (bI (dig (n / 1000 % 10))) (bI (dig (n / 100 % 10))) (bI (dig (n / 10 % 10))) (bI (dig (n % 10)))]):=by
 have m8:=fun n:Nat=>tmL n 100000000 100000000 rfl
 have m4:=fun n:Nat=>tmL n 10000 10000 rfl
 have m2:=fun n:Nat=>tmL n 100 100 rfl
 have d8:=fun n:Nat=>tqL n 100000000 100000000 rfl
 have d4:=fun n:Nat=>tqL n 10000 10000 rfl
 have d2:=fun n:Nat=>tqL n 100 100 rfl
 obtain⟨p01,p02,p03,p04,p05,p06⟩:=pfI (n % 100000000 % 10000 % 100) (by omega);rw[show n % 100000000 % 10000 % 100 / 10=n / 10 % 10 by omega] at p05;rw[show n % 100000000 % 10000 % 100 % 10=n % 10 by omega] at p06;simp only[smS] at p05 p06;obtain⟨p11,p12,p13,p14,p15,p16⟩:=pfI (n % 100000000 % 10000 / 100) (by omega);rw[show n % 100000000 % 10000 / 100 / 10=n / 1000 % 10 by omega] at p15;rw[show n % 100000000 % 10000 / 100 % 10=n / 100 % 10 by omega] at p16;simp only[smS] at p15 p16;obtain⟨p21,p22,p23,p24,p25,p26⟩:=pfI (n % 100000000 / 10000 % 100) (by omega);rw[show n % 100000000 / 10000 % 100 / 10=n / 100000 % 10 by omega] at p25;rw[show n % 100000000 / 10000 % 100 % 10=n / 10000 % 10 by omega] at p26;simp only[smS] at p25 p26;obtain⟨p31,p32,p33,p34,p35,p36⟩:=pfI (n % 100000000 / 10000 / 100) (by omega);rw[show n % 100000000 / 10000 / 100 / 10=n / 10000000 % 10 by omega] at p35;rw[show n % 100000000 / 10000 / 100 % 10=n / 1000000 % 10 by omega] at p36;simp only[smS] at p35 p36;have w0:IntKind.u32.wrap ((n % 100000000:Nat):Int)=((n % 100000000:Nat):Int):=bV (by omega) (by omega);have w1:IntKind.u32.wrap ((n % 100000000 / 10000:Nat):Int)=((n % 100000000 / 10000:Nat):Int):=bV (by omega) (by omega);have w2:IntKind.u32.wrap ((n % 100000000 % 10000:Nat):Int)=((n % 100000000 % 10000:Nat):Int):=bV (by omega) (by omega);have w3:IntKind.u32.wrap ((n % 100000000 % 10000 / 100:Nat):Int)=((n % 100000000 % 10000 / 100:Nat):Int):=bV (by omega) (by omega);have w4:IntKind.u32.wrap ((n % 100000000 % 10000 % 100:Nat):Int)=((n % 100000000 % 10000 % 100:Nat):Int):=bV (by omega) (by omega);have w5:IntKind.u32.wrap ((n % 100000000 / 10000 / 100:Nat):Int)=((n % 100000000 / 10000 / 100:Nat):Int):=bV (by omega) (by omega);have w6:IntKind.u32.wrap ((n % 100000000 / 10000 % 100:Nat):Int)=((n % 100000000 / 10000 % 100:Nat):Int):=bV (by omega) (by omega);have w64a:IntKind.u64.wrap ((n / 100000000:Nat):Int)=((n / 100000000:Nat):Int):=fN (by omega) (by omega);have w64b:IntKind.u64.wrap ((n % 100000000:Nat):Int)=((n % 100000000:Nat):Int):=fN (by omega) (by omega);rw[aB (L:=eE) rfl];simp only[o24,go_sem,m8,m4,m2,d8,d4,d2,w64a,w64b,p01,p02,p03,p04,p05,p06,p11,p12,p13,p14,p15,p16,p21,p22,p23,p24,p25,p26,p31,p32,p33,p34,p35,p36,w0,w1,w2,w3,w4,w5,w6];rw[aB (L:=eE) rfl];simp only[go_sem]
theorem XL (n:Nat) (h1:100<=n) (h2:n < 1000) (h3:n<=4294967295):G0 127 [.ss 0 1 3 1,.int .u64 n] [o24 0 0 0 0 0 0 0 0 0 0]=some (.tup [],[o24 (bI (dig (n / 100 % 10))) (bI (dig (n / 10 % 10))) (bI (dig (n % 10))) 0 0 0 0 0 0 0]):=by
 refine aA nI rfl rfl rfl ?_;have m8:=fun n:Nat=>tmL n 100000000 100000000 rfl
 have m4:=fun n:Nat=>tmL n 10000 10000 rfl
 have m2:=fun n:Nat=>tmL n 100 100 rfl
 have d8:=fun n:Nat=>tqL n 100000000 100000000 rfl
 have d4:=fun n:Nat=>tqL n 10000 10000 rfl
 have d2:=fun n:Nat=>tqL n 100 100 rfl
 obtain⟨p01,p02,p03,p04,p05,p06⟩:=pfI (n % 100) (by omega);rw[show n % 100 / 10=n / 10 % 10 by omega] at p05;rw[show n % 100 % 10=n % 10 by omega] at p06;simp only[smS] at p05 p06;have w0:IntKind.u32.wrap ((n:Nat):Int)=((n:Nat):Int):=bV (by omega) (by omega);have w1:IntKind.u32.wrap ((n % 100:Nat):Int)=((n % 100:Nat):Int):=bV (by omega) (by omega);have w2:IntKind.u32.wrap ((n / 100:Nat):Int)=((n / 100:Nat):Int):=bV (by omega) (by omega);have w64a:IntKind.u64.wrap ((n / 100000000:Nat):Int)=((n / 100000000:Nat):Int):=fN (by omega) (by omega);have w64b:IntKind.u64.wrap ((n % 100000000:Nat):Int)=((n % 100000000:Nat):Int):=fN (by omega) (by omega);obtain⟨q1,q2⟩:=OZ (n / 100) (by omega);have q3:n / 100=n / 100 % 10:=by omega
 rw[show n / 100 % 10=(n / 100) by omega];have lp:=fun n:Int=>fun sh:LL=>W8 n sh
 simp only[nI,o24,go_sem,lp,m8,m4,m2,d8,d4,d2,w64a,w64b,p01,p02,p03,p04,p05,p06,w0,w1,w2,q1,q2]
 try rfl
theorem XK (n:Nat) (h1:1000<=n) (h2:n < 10000) (h3:n<=4294967295):G0 127 [.ss 0 1 4 1,.int .u64 n] [o24 0 0 0 0 0 0 0 0 0 0]=some (.tup [],[o24 (bI (dig (n / 1000 % 10))) (bI (dig (n / 100 % 10))) (bI (dig (n / 10 % 10))) (bI (dig (n % 10))) 0 0 0 0 0 0]):=by
 refine aA nI rfl rfl rfl ?_;have m8:=fun n:Nat=>tmL n 100000000 100000000 rfl
 have m4:=fun n:Nat=>tmL n 10000 10000 rfl
 have m2:=fun n:Nat=>tmL n 100 100 rfl
 have d8:=fun n:Nat=>tqL n 100000000 100000000 rfl
 have d4:=fun n:Nat=>tqL n 10000 10000 rfl
 have d2:=fun n:Nat=>tqL n 100 100 rfl
 obtain⟨p01,p02,p03,p04,p05,p06⟩:=pfI (n % 10000 % 100) (by omega);rw[show n % 10000 % 100 / 10=n / 10 % 10 by omega] at p05;rw[show n % 10000 % 100 % 10=n % 10 by omega] at p06;simp only[smS] at p05 p06;obtain⟨p11,p12,p13,p14,p15,p16⟩:=pfI (n % 10000 / 100) (by omega);rw[show n % 10000 / 100 / 10=n / 1000 % 10 by omega] at p15;rw[show n % 10000 / 100 % 10=n / 100 % 10 by omega] at p16;simp only[smS] at p15 p16;have w0:IntKind.u32.wrap ((n:Nat):Int)=((n:Nat):Int):=bV (by omega) (by omega);have w1:IntKind.u32.wrap ((n % 10000:Nat):Int)=((n % 10000:Nat):Int):=bV (by omega) (by omega);have w2:IntKind.u32.wrap ((n / 10000:Nat):Int)=((n / 10000:Nat):Int):=bV (by omega) (by omega);have w3:IntKind.u32.wrap ((n % 10000 % 100:Nat):Int)=((n % 10000 % 100:Nat):Int):=bV (by omega) (by omega);have w4:IntKind.u32.wrap ((n % 10000 / 100:Nat):Int)=((n % 10000 / 100:Nat):Int):=bV (by omega) (by omega);have w64a:IntKind.u64.wrap ((n / 100000000:Nat):Int)=((n / 100000000:Nat):Int):=fN (by omega) (by omega);have w64b:IntKind.u64.wrap ((n % 100000000:Nat):Int)=((n % 100000000:Nat):Int):=fN (by omega) (by omega);have lp:=fun n:Int=>fun sh:LL=>W7 n sh
 simp only[nI,o24,go_sem,lp,m8,m4,m2,d8,d4,d2,w64a,w64b,p01,p02,p03,p04,p05,p06,p11,p12,p13,p14,p15,p16,w0,w1,w2,w3,w4]
 try rfl
theorem XJ (n:Nat) (h1:10000<=n) (h2:n < 100000) (h3:n<=4294967295):G0 127 [.ss 0 1 5 1,.int .u64 n] [o24 0 0 0 0 0 0 0 0 0 0]=some (.tup [],[o24 (bI (dig (n / 10000 % 10))) (bI (dig (n / 1000 % 10))) (bI (dig (n / 100 % 10))) (bI (dig (n / 10 % 10))) (bI (dig (n % 10))) 0 0 0 0 0]):=by
 refine aA nI rfl rfl rfl ?_;have m8:=fun n:Nat=>tmL n 100000000 100000000 rfl
 have m4:=fun n:Nat=>tmL n 10000 10000 rfl
 have m2:=fun n:Nat=>tmL n 100 100 rfl
 have d8:=fun n:Nat=>tqL n 100000000 100000000 rfl
 have d4:=fun n:Nat=>tqL n 10000 10000 rfl
 have d2:=fun n:Nat=>tqL n 100 100 rfl
 obtain⟨p01,p02,p03,p04,p05,p06⟩:=pfI (n % 10000 % 100) (by omega);rw[show n % 10000 % 100 / 10=n / 10 % 10 by omega] at p05;rw[show n % 10000 % 100 % 10=n % 10 by omega] at p06;simp only[smS] at p05 p06;obtain⟨p11,p12,p13,p14,p15,p16⟩:=pfI (n % 10000 / 100) (by omega);rw[show n % 10000 / 100 / 10=n / 1000 % 10 by omega] at p15;rw[show n % 10000 / 100 % 10=n / 100 % 10 by omega] at p16;simp only[smS] at p15 p16;have w0:IntKind.u32.wrap ((n:Nat):Int)=((n:Nat):Int):=bV (by omega) (by omega);have w1:IntKind.u32.wrap ((n % 10000:Nat):Int)=((n % 10000:Nat):Int):=bV (by omega) (by omega);have w2:IntKind.u32.wrap ((n / 10000:Nat):Int)=((n / 10000:Nat):Int):=bV (by omega) (by omega);have w3:IntKind.u32.wrap ((n % 10000 % 100:Nat):Int)=((n % 10000 % 100:Nat):Int):=bV (by omega) (by omega);have w4:IntKind.u32.wrap ((n % 10000 / 100:Nat):Int)=((n % 10000 / 100:Nat):Int):=bV (by omega) (by omega);have w64a:IntKind.u64.wrap ((n / 100000000:Nat):Int)=((n / 100000000:Nat):Int):=fN (by omega) (by omega);have w64b:IntKind.u64.wrap ((n % 100000000:Nat):Int)=((n % 100000000:Nat):Int):=fN (by omega) (by omega);obtain⟨q1,q2⟩:=OZ (n / 10000) (by omega);have q3:n / 10000=n / 10000 % 10:=by omega
 rw[show n / 10000 % 10=(n / 10000) by omega];have lp:=fun n:Int=>fun sh:LL=>W6 n sh
 simp only[nI,o24,go_sem,lp,m8,m4,m2,d8,d4,d2,w64a,w64b,p01,p02,p03,p04,p05,p06,p11,p12,p13,p14,p15,p16,w0,w1,w2,w3,w4,q1,q2]
 try rfl
theorem XI (n:Nat) (h1:100000<=n) (h2:n < 1000000) (h3:n<=4294967295):G0 127 [.ss 0 1 6 1,.int .u64 n] [o24 0 0 0 0 0 0 0 0 0 0]=some (.tup [],[o24 (bI (dig (n / 100000 % 10))) (bI (dig (n / 10000 % 10))) (bI (dig (n / 1000 % 10))) (bI (dig (n / 100 % 10))) (bI (dig (n / 10 % 10))) (bI (dig (n % 10))) 0 0 0 0]):=by
 refine aA nI rfl rfl rfl ?_;have m8:=fun n:Nat=>tmL n 100000000 100000000 rfl
 have m4:=fun n:Nat=>tmL n 10000 10000 rfl
 have m2:=fun n:Nat=>tmL n 100 100 rfl
 have d8:=fun n:Nat=>tqL n 100000000 100000000 rfl
 have d4:=fun n:Nat=>tqL n 10000 10000 rfl
 have d2:=fun n:Nat=>tqL n 100 100 rfl
 obtain⟨p01,p02,p03,p04,p05,p06⟩:=pfI (n % 10000 % 100) (by omega);rw[show n % 10000 % 100 / 10=n / 10 % 10 by omega] at p05;rw[show n % 10000 % 100 % 10=n % 10 by omega] at p06;simp only[smS] at p05 p06;obtain⟨p11,p12,p13,p14,p15,p16⟩:=pfI (n % 10000 / 100) (by omega);rw[show n % 10000 / 100 / 10=n / 1000 % 10 by omega] at p15;rw[show n % 10000 / 100 % 10=n / 100 % 10 by omega] at p16;simp only[smS] at p15 p16;obtain⟨p21,p22,p23,p24,p25,p26⟩:=pfI (n / 10000 % 100) (by omega);rw[show n / 10000 % 100 / 10=n / 100000 % 10 by omega] at p25;rw[show n / 10000 % 100 % 10=n / 10000 % 10 by omega] at p26;simp only[smS] at p25 p26;have w0:IntKind.u32.wrap ((n:Nat):Int)=((n:Nat):Int):=bV (by omega) (by omega);have w1:IntKind.u32.wrap ((n % 10000:Nat):Int)=((n % 10000:Nat):Int):=bV (by omega) (by omega);have w2:IntKind.u32.wrap ((n / 10000:Nat):Int)=((n / 10000:Nat):Int):=bV (by omega) (by omega);have w3:IntKind.u32.wrap ((n % 10000 % 100:Nat):Int)=((n % 10000 % 100:Nat):Int):=bV (by omega) (by omega);have w4:IntKind.u32.wrap ((n % 10000 / 100:Nat):Int)=((n % 10000 / 100:Nat):Int):=bV (by omega) (by omega);have w5:IntKind.u32.wrap ((n / 10000 % 100:Nat):Int)=((n / 10000 % 100:Nat):Int):=bV (by omega) (by omega);have w6:IntKind.u32.wrap ((n / 10000 / 100:Nat):Int)=((n / 10000 / 100:Nat):Int):=bV (by omega) (by omega);have w64a:IntKind.u64.wrap ((n / 100000000:Nat):Int)=((n / 100000000:Nat):Int):=fN (by omega) (by omega);have w64b:IntKind.u64.wrap ((n % 100000000:Nat):Int)=((n % 100000000:Nat):Int):=fN (by omega) (by omega);have lp:=fun n:Int=>fun sh:LL=>W5 n sh
 simp only[nI,o24,go_sem,lp,m8,m4,m2,d8,d4,d2,w64a,w64b,p01,p02,p03,p04,p05,p06,p11,p12,p13,p14,p15,p16,p21,p22,p23,p24,p25,p26,w0,w1,w2,w3,w4,w5,w6]
 try rfl
theorem XH (n:Nat) (h1:1000000<=n) (h2:n < 10000000) (h3:n<=4294967295):G0 127 [.ss 0 1 7 1,.int .u64 n] [o24 0 0 0 0 0 0 0 0 0 0]=some (.tup [],[o24 (bI (dig (n / 1000000 % 10))) (bI (dig (n / 100000 % 10))) (bI (dig (n / 10000 % 10))) (bI (dig (n / 1000 % 10))) (bI (dig (n / 100 % 10))) (bI (dig (n / 10 % 10))) (bI (dig (n % 10))) 0 0 0]):=by
 refine aA nI rfl rfl rfl ?_;have m8:=fun n:Nat=>tmL n 100000000 100000000 rfl
 have m4:=fun n:Nat=>tmL n 10000 10000 rfl
 have m2:=fun n:Nat=>tmL n 100 100 rfl
 have d8:=fun n:Nat=>tqL n 100000000 100000000 rfl
 have d4:=fun n:Nat=>tqL n 10000 10000 rfl
 have d2:=fun n:Nat=>tqL n 100 100 rfl
 obtain⟨p01,p02,p03,p04,p05,p06⟩:=pfI (n % 10000 % 100) (by omega);rw[show n % 10000 % 100 / 10=n / 10 % 10 by omega] at p05;rw[show n % 10000 % 100 % 10=n % 10 by omega] at p06;simp only[smS] at p05 p06;obtain⟨p11,p12,p13,p14,p15,p16⟩:=pfI (n % 10000 / 100) (by omega);rw[show n % 10000 / 100 / 10=n / 1000 % 10 by omega] at p15;rw[show n % 10000 / 100 % 10=n / 100 % 10 by omega] at p16;simp only[smS] at p15 p16;obtain⟨p21,p22,p23,p24,p25,p26⟩:=pfI (n / 10000 % 100) (by omega);rw[show n / 10000 % 100 / 10=n / 100000 % 10 by omega] at p25;rw[show n / 10000 % 100 % 10=n / 10000 % 10 by omega] at p26;simp only[smS] at p25 p26;have w0:IntKind.u32.wrap ((n:Nat):Int)=((n:Nat):Int):=bV (by omega) (by omega);have w1:IntKind.u32.wrap ((n % 10000:Nat):Int)=((n % 10000:Nat):Int):=bV (by omega) (by omega);have w2:IntKind.u32.wrap ((n / 10000:Nat):Int)=((n / 10000:Nat):Int):=bV (by omega) (by omega);have w3:IntKind.u32.wrap ((n % 10000 % 100:Nat):Int)=((n % 10000 % 100:Nat):Int):=bV (by omega) (by omega);have w4:IntKind.u32.wrap ((n % 10000 / 100:Nat):Int)=((n % 10000 / 100:Nat):Int):=bV (by omega) (by omega);have w5:IntKind.u32.wrap ((n / 10000 % 100:Nat):Int)=((n / 10000 % 100:Nat):Int):=bV (by omega) (by omega);have w6:IntKind.u32.wrap ((n / 10000 / 100:Nat):Int)=((n / 10000 / 100:Nat):Int):=bV (by omega) (by omega);have w64a:IntKind.u64.wrap ((n / 100000000:Nat):Int)=((n / 100000000:Nat):Int):=fN (by omega) (by omega);have w64b:IntKind.u64.wrap ((n % 100000000:Nat):Int)=((n % 100000000:Nat):Int):=fN (by omega) (by omega);obtain⟨q1,q2⟩:=OZ (n / 10000 / 100) (by omega);have q3:n / 10000 / 100=n / 1000000 % 10:=by omega
 rw[show n / 1000000 % 10=(n / 10000 / 100) by omega];have lp:=fun n:Int=>fun sh:LL=>W4 n sh
 simp only[nI,o24,go_sem,lp,m8,m4,m2,d8,d4,d2,w64a,w64b,p01,p02,p03,p04,p05,p06,p11,p12,p13,p14,p15,p16,p21,p22,p23,p24,p25,p26,w0,w1,w2,w3,w4,w5,w6,q1,q2]
 try rfl
theorem XG (n:Nat) (h1:10000000<=n) (h2:n < 100000000) (h3:n<=4294967295):G0 127 [.ss 0 1 8 1,.int .u64 n] [o24 0 0 0 0 0 0 0 0 0 0]=some (.tup [],[o24 (bI (dig (n / 10000000 % 10))) (bI (dig (n / 1000000 % 10))) (bI (dig (n / 100000 % 10))) (bI (dig (n / 10000 % 10))) (bI (dig (n / 1000 % 10))) (bI (dig (n / 100 % 10))) (bI (dig (n / 10 % 10))) (bI (dig (n % 10))) 0 0]):=by
 refine aA nI rfl rfl rfl ?_;have m8:=fun n:Nat=>tmL n 100000000 100000000 rfl
 have m4:=fun n:Nat=>tmL n 10000 10000 rfl
 have m2:=fun n:Nat=>tmL n 100 100 rfl
 have d8:=fun n:Nat=>tqL n 100000000 100000000 rfl
 have d4:=fun n:Nat=>tqL n 10000 10000 rfl
 have d2:=fun n:Nat=>tqL n 100 100 rfl
 have w0:IntKind.u32.wrap ((n / 100000000:Nat):Int)=((n / 100000000:Nat):Int):=bV (by omega) (by omega);have w64a:IntKind.u64.wrap ((n / 100000000:Nat):Int)=((n / 100000000:Nat):Int):=fN (by omega) (by omega);have w64b:IntKind.u64.wrap ((n % 100000000:Nat):Int)=((n % 100000000:Nat):Int):=fN (by omega) (by omega);have lp:=W3 n h3;simp only[o24] at lp;simp only[nI,o24,go_sem,lp,m8,m4,m2,d8,d4,d2,w64a,w64b,w0]
 try rfl
theorem XF (n:Nat) (h1:100000000<=n) (h2:n < 1000000000) (h3:n<=4294967295):G0 127 [.ss 0 1 9 1,.int .u64 n] [o24 0 0 0 0 0 0 0 0 0 0]=some (.tup [],[o24 (bI (dig (n / 100000000 % 10))) (bI (dig (n / 10000000 % 10))) (bI (dig (n / 1000000 % 10))) (bI (dig (n / 100000 % 10))) (bI (dig (n / 10000 % 10))) (bI (dig (n / 1000 % 10))) (bI (dig (n / 100 % 10))) (bI (dig (n / 10 % 10))) (bI (dig (n % 10))) 0]):=by
 refine aA nI rfl rfl rfl ?_;have m8:=fun n:Nat=>tmL n 100000000 100000000 rfl
 have m4:=fun n:Nat=>tmL n 10000 10000 rfl
 have m2:=fun n:Nat=>tmL n 100 100 rfl
 have d8:=fun n:Nat=>tqL n 100000000 100000000 rfl
 have d4:=fun n:Nat=>tqL n 10000 10000 rfl
 have d2:=fun n:Nat=>tqL n 100 100 rfl
 have w0:IntKind.u32.wrap ((n / 100000000:Nat):Int)=((n / 100000000:Nat):Int):=bV (by omega) (by omega);have w64a:IntKind.u64.wrap ((n / 100000000:Nat):Int)=((n / 100000000:Nat):Int):=fN (by omega) (by omega);have w64b:IntKind.u64.wrap ((n % 100000000:Nat):Int)=((n % 100000000:Nat):Int):=fN (by omega) (by omega);obtain⟨q1,q2⟩:=OZ (n / 100000000) (by omega);have q3:n / 100000000=n / 100000000 % 10:=by omega
 rw[show n / 100000000 % 10=(n / 100000000) by omega];have lp:=W2 n h3;simp only[o24] at lp;simp only[nI,o24,go_sem,lp,m8,m4,m2,d8,d4,d2,w64a,w64b,w0,q1,q2]
 try rfl
theorem RP (n:Nat) (h1:1000000000<=n) (h2:n < 10000000000) (h3:n<=4294967295):G0 127 [.ss 0 1 10 1,.int .u64 n] [o24 0 0 0 0 0 0 0 0 0 0]=some (.tup [],[o24 (bI (dig (n / 1000000000 % 10))) (bI (dig (n / 100000000 % 10))) (bI (dig (n / 10000000 % 10))) (bI (dig (n / 1000000 % 10))) (bI (dig (n / 100000 % 10))) (bI (dig (n / 10000 % 10))) (bI (dig (n / 1000 % 10))) (bI (dig (n / 100 % 10))) (bI (dig (n / 10 % 10))) (bI (dig (n % 10)))]):=by
 refine aA nI rfl rfl rfl ?_;have m8:=fun n:Nat=>tmL n 100000000 100000000 rfl
 have m4:=fun n:Nat=>tmL n 10000 10000 rfl
 have m2:=fun n:Nat=>tmL n 100 100 rfl
 have d8:=fun n:Nat=>tqL n 100000000 100000000 rfl
 have d4:=fun n:Nat=>tqL n 10000 10000 rfl
 have d2:=fun n:Nat=>tqL n 100 100 rfl
 obtain⟨p01,p02,p03,p04,p05,p06⟩:=pfI (n / 100000000 % 100) (by omega);rw[show n / 100000000 % 100 / 10=n / 1000000000 % 10 by omega] at p05;rw[show n / 100000000 % 100 % 10=n / 100000000 % 10 by omega] at p06;simp only[smS] at p05 p06;have w0:IntKind.u32.wrap ((n / 100000000:Nat):Int)=((n / 100000000:Nat):Int):=bV (by omega) (by omega);have w1:IntKind.u32.wrap ((n / 100000000 % 100:Nat):Int)=((n / 100000000 % 100:Nat):Int):=bV (by omega) (by omega);have w2:IntKind.u32.wrap ((n / 100000000 / 100:Nat):Int)=((n / 100000000 / 100:Nat):Int):=bV (by omega) (by omega);have w64a:IntKind.u64.wrap ((n / 100000000:Nat):Int)=((n / 100000000:Nat):Int):=fN (by omega) (by omega);have w64b:IntKind.u64.wrap ((n % 100000000:Nat):Int)=((n % 100000000:Nat):Int):=fN (by omega) (by omega);have lp:=RJ n h3;simp only[o24] at lp;simp only[nI,o24,go_sem,lp,m8,m4,m2,d8,d4,d2,w64a,w64b,p01,p02,p03,p04,p05,p06,w0,w1,w2]
 try rfl
theorem zFK {n:Nat} (h1:100<=n) (h2:n < 1000):dcN n=[dig (n / 100 % 10),dig (n / 10 % 10),dig (n % 10)]:=by
 rw[aX (by omega),aX (by omega),fJ (by omega)];simp only[append_assoc,cons_append,nil_append,Nat.div_div_eq_div_mul,Nat.reduceMul];rw[show n / 100 % 10=n / 100 by omega]
theorem zFJ {n:Nat} (h1:1000<=n) (h2:n < 10000):dcN n=[dig (n / 1000 % 10),dig (n / 100 % 10),dig (n / 10 % 10),dig (n % 10)]:=by
 rw[aX (by omega),aX (by omega),aX (by omega),fJ (by omega)];simp only[append_assoc,cons_append,nil_append,Nat.div_div_eq_div_mul,Nat.reduceMul];rw[show n / 1000 % 10=n / 1000 by omega]
theorem zFI {n:Nat} (h1:10000<=n) (h2:n < 100000):dcN n=[dig (n / 10000 % 10),dig (n / 1000 % 10),dig (n / 100 % 10),dig (n / 10 % 10),dig (n % 10)]:=by
 rw[aX (by omega),aX (by omega),aX (by omega),aX (by omega),fJ (by omega)];simp only[append_assoc,cons_append,nil_append,Nat.div_div_eq_div_mul,Nat.reduceMul];rw[show n / 10000 % 10=n / 10000 by omega]
theorem zFH {n:Nat} (h1:100000<=n) (h2:n < 1000000):dcN n=[dig (n / 100000 % 10),dig (n / 10000 % 10),dig (n / 1000 % 10),dig (n / 100 % 10),dig (n / 10 % 10),dig (n % 10)]:=by
 rw[aX (by omega),aX (by omega),aX (by omega),aX (by omega),aX (by omega),fJ (by omega)];simp only[append_assoc,cons_append,nil_append,Nat.div_div_eq_div_mul,Nat.reduceMul];rw[show n / 100000 % 10=n / 100000 by omega]
theorem zFG {n:Nat} (h1:1000000<=n) (h2:n < 10000000):dcN n=[dig (n / 1000000 % 10),dig (n / 100000 % 10),dig (n / 10000 % 10),dig (n / 1000 % 10),dig (n / 100 % 10),dig (n / 10 % 10),dig (n % 10)]:=by
 rw[aX (by omega),aX (by omega),aX (by omega),aX (by omega),aX (by omega),aX (by omega),fJ (by omega)];simp only[append_assoc,cons_append,nil_append,Nat.div_div_eq_div_mul,Nat.reduceMul];rw[show n / 1000000 % 10=n / 1000000 by omega]
theorem zFF {n:Nat} (h1:10000000<=n) (h2:n < 100000000):dcN n=[dig (n / 10000000 % 10),dig (n / 1000000 % 10),dig (n / 100000 % 10),dig (n / 10000 % 10),dig (n / 1000 % 10),dig (n / 100 % 10),dig (n / 10 % 10),dig (n % 10)]:=by
 rw[aX (by omega),aX (by omega),aX (by omega),aX (by omega),aX (by omega),aX (by omega),aX (by omega),fJ (by omega)];simp only[append_assoc,cons_append,nil_append,Nat.div_div_eq_div_mul,Nat.reduceMul];rw[show n / 10000000 % 10=n / 10000000 by omega]
theorem zFE {n:Nat} (h1:100000000<=n) (h2:n < 1000000000):dcN n=[dig (n / 100000000 % 10),dig (n / 10000000 % 10),dig (n / 1000000 % 10),dig (n / 100000 % 10),dig (n / 10000 % 10),dig (n / 1000 % 10),dig (n / 100 % 10),dig (n / 10 % 10),dig (n % 10)]:=by
 rw[aX (by omega),aX (by omega),aX (by omega),aX (by omega),aX (by omega),aX (by omega),aX (by omega),aX (by omega),fJ (by omega)];simp only[append_assoc,cons_append,nil_append,Nat.div_div_eq_div_mul,Nat.reduceMul];rw[show n / 100000000 % 10=n / 100000000 by omega]
theorem YF {n:Nat} (h1:1000000000<=n) (h2:n < 10000000000):dcN n=[dig (n / 1000000000 % 10),dig (n / 100000000 % 10),dig (n / 10000000 % 10),dig (n / 1000000 % 10),dig (n / 100000 % 10),dig (n / 10000 % 10),dig (n / 1000 % 10),dig (n / 100 % 10),dig (n / 10 % 10),dig (n % 10)]:=by
 rw[aX (by omega),aX (by omega),aX (by omega),aX (by omega),aX (by omega),aX (by omega),aX (by omega),aX (by omega),aX (by omega),fJ (by omega)];simp only[append_assoc,cons_append,nil_append,Nat.div_div_eq_div_mul,Nat.reduceMul];rw[show n / 1000000000 % 10=n / 1000000000 by omega]
theorem zCP (x0 x1 x2:Int):dD 1 3 1 (o24 x0 x1 x2 0 0 0 0 0 0 0)=some [[.int .u8 x0],[.int .u8 x1],[.int .u8 x2]]:=rfl
theorem zCO (x0 x1 x2 x3:Int):dD 1 4 1 (o24 x0 x1 x2 x3 0 0 0 0 0 0)=some [[.int .u8 x0],[.int .u8 x1],[.int .u8 x2],[.int .u8 x3]]:=rfl
theorem zCN (x0 x1 x2 x3 x4:Int):dD 1 5 1 (o24 x0 x1 x2 x3 x4 0 0 0 0 0)=some [[.int .u8 x0],[.int .u8 x1],[.int .u8 x2],[.int .u8 x3],[.int .u8 x4]]:=rfl
theorem zCM (x0 x1 x2 x3 x4 x5:Int):dD 1 6 1 (o24 x0 x1 x2 x3 x4 x5 0 0 0 0)=some [[.int .u8 x0],[.int .u8 x1],[.int .u8 x2],[.int .u8 x3],[.int .u8 x4],[.int .u8 x5]]:=rfl
theorem zCL (x0 x1 x2 x3 x4 x5 x6:Int):dD 1 7 1 (o24 x0 x1 x2 x3 x4 x5 x6 0 0 0)=some [[.int .u8 x0],[.int .u8 x1],[.int .u8 x2],[.int .u8 x3],[.int .u8 x4],[.int .u8 x5],[.int .u8 x6]]:=rfl
theorem zCK (x0 x1 x2 x3 x4 x5 x6 x7:Int):dD 1 8 1 (o24 x0 x1 x2 x3 x4 x5 x6 x7 0 0)=some [[.int .u8 x0],[.int .u8 x1],[.int .u8 x2],[.int .u8 x3],[.int .u8 x4],[.int .u8 x5],[.int .u8 x6],[.int .u8 x7]]:=rfl
theorem zCJ (x0 x1 x2 x3 x4 x5 x6 x7 x8:Int):dD 1 9 1 (o24 x0 x1 x2 x3 x4 x5 x6 x7 x8 0)=some [[.int .u8 x0],[.int .u8 x1],[.int .u8 x2],[.int .u8 x3],[.int .u8 x4],[.int .u8 x5],[.int .u8 x6],[.int .u8 x7],[.int .u8 x8]]:=rfl
theorem V7 (x0 x1 x2 x3 x4 x5 x6 x7 x8 x9:Int):dD 1 10 1 (o24 x0 x1 x2 x3 x4 x5 x6 x7 x8 x9)=some [[.int .u8 x0],[.int .u8 x1],[.int .u8 x2],[.int .u8 x3],[.int .u8 x4],[.int .u8 x5],[.int .u8 x6],[.int .u8 x7],[.int .u8 x8],[.int .u8 x9]]:=rfl
theorem kI98 (n:Nat) (h1:100<=n) (h2:n<=4294967295):G0 98 [.int .i64 n,.int .i64 10] []=some (.str (dcN n),[]):=by
 have a0:(0:Int)<=(n:Int):=by omega
 have a1:¬ (n:Int) < 100:=by omega
 have a2:¬ (n:Int) < 0:=by omega
 have w:IntKind.u64.wrap (n:Int)=(n:Int):=fN (by omega) (by omega);obtain⟨k,k3,k10,p1,p2,c⟩:=kDig n h1 h2;have hk:k=3\/k=4\/k=5\/k=6\/k=7\/k=8\/k=9\/k=10:=by omega
 refine aA F98 rfl rfl rfl ?_;rcases hk with q | q | q | q | q | q | q | q<;>subst q<;>simp only[Nat.reduceSub,Nat.reducePow] at p1 p2
 ·rw[zFK p1 p2]
  have g:=XL n p1 p2 h2;have r:=zCP;simp only[o24] at g r;simp only[F98,go_sem,a0,a1,a2,w,c,g,r,bR,UInt8.ofNat_toNat]
 ·rw[zFJ p1 p2]
  have g:=XK n p1 p2 h2;have r:=zCO;simp only[o24] at g r;simp only[F98,go_sem,a0,a1,a2,w,c,g,r,bR,UInt8.ofNat_toNat]
 ·rw[zFI p1 p2]
  have g:=XJ n p1 p2 h2;have r:=zCN;simp only[o24] at g r;simp only[F98,go_sem,a0,a1,a2,w,c,g,r,bR,UInt8.ofNat_toNat]
 ·rw[zFH p1 p2]
  have g:=XI n p1 p2 h2;have r:=zCM;simp only[o24] at g r;simp only[F98,go_sem,a0,a1,a2,w,c,g,r,bR,UInt8.ofNat_toNat]
 ·rw[zFG p1 p2]
  have g:=XH n p1 p2 h2;have r:=zCL;simp only[o24] at g r;simp only[F98,go_sem,a0,a1,a2,w,c,g,r,bR,UInt8.ofNat_toNat]
 ·rw[zFF p1 p2]
  have g:=XG n p1 p2 h2;have r:=zCK;simp only[o24] at g r;simp only[F98,go_sem,a0,a1,a2,w,c,g,r,bR,UInt8.ofNat_toNat]
 ·rw[zFE p1 p2]
  have g:=XF n p1 p2 h2;have r:=zCJ;simp only[o24] at g r;simp only[F98,go_sem,a0,a1,a2,w,c,g,r,bR,UInt8.ofNat_toNat]
 ·rw[YF p1 p2]
  have g:=RP n p1 p2 h2;have r:=V7;simp only[o24] at g r;simp only[F98,go_sem,a0,a1,a2,w,c,g,r,bR,UInt8.ofNat_toNat]
theorem kIt (n:Nat) (h:n<=4294967295):G0 34 [.int .i64 n] []=some (.str (dcN n),[]):=by
 by_cases q:n<=999
 ·have:=c50 n q
  rw[YE q] at this;exact this
 ·have c:=kI98 n (by omega) h
  have c2:G0 65 [.int .i64 n] []=some (.str (dcN n),[]):=by
   refine aA F65 rfl rfl rfl ?_;simp only[F65,go_sem,c]
  refine aA F34 rfl rfl rfl ?_;simp only[F34,go_sem,c2]
end Go.Av
namespace Go.Av
open Go.Proofs Go.RowKit Go.Nt
set_option maxHeartbeats 4000000
theorem tO {b:ByteArray} {s:List UInt8} (h:b.data.toList=s):b=⟨s.toArray⟩:=by cases b;subst h;simp
theorem V6 {c:Cx} {s:List UInt8} {n:Int} {v:Value} (h:aQ c aS (.tup [.str s,.int .i64 n]) v):v=.tuple #[.string ⟨s.toArray⟩,.int .i64 n]:=by
 obtain⟨⟨l⟩,rfl,h⟩:=h
 match l,h with
 | [x,y],⟨⟨b,hx,hb⟩,hy,_⟩ =>
  have hy:y=.int .i64 n:=hy;rw[hx,hy,tO hb]
theorem JV {S0:Nat->Nat->Prop} {w W:World} (h:lM S0 w) (hc:∀ b o,S0 b o->W.cell? ⟨b,o,none⟩=w.cell? ⟨b,o,none⟩):lM S0 W:=fun i k l hi=>eI.mono (fun b o hs=>⟨hs,hc b o hs⟩) _ _ _ (h i k l hi)
structure Ent (S0:Nat->Nat->Prop) (w:World):Prop where
 lt:∀ b o,S0 b o->b < w.heap.size
 gl:lM S0 w
theorem Ent.cell {S0:Nat->Nat->Prop} {w W:World} (h:Ent S0 w) (hb:Below w.heap.size w W):∀ b o,S0 b o->W.cell? ⟨b,o,none⟩=w.cell? ⟨b,o,none⟩:=fun b o hs=>hb.cell (p:=⟨b,o,none⟩) (h.lt b o hs)
theorem Ent.next {S0:Nat->Nat->Prop} {w W:World} (h:Ent S0 w) (hb:Below w.heap.size w W):Ent S0 W:=⟨fun b o hs=>Nat.lt_of_lt_of_le (h.lt b o hs) hb.size,JV h.gl (h.cell hb)⟩
theorem zES:∀ vs w,(callFunc 66 vs).run Tryz.prog w=.ok (.enter 66 vs) w:=enters_of Tryz.func66 (by kernel_rfl) rfl
theorem zET:∀ vs w,(callFunc 34 vs).run Tryz.prog w=.ok (.enter 34 vs) w:=enters_of Tryz.func34 (by kernel_rfl) rfl
theorem zEU:∀ vs w,(callFunc 32 vs).run Tryz.prog w=.ok (.enter 32 vs) w:=enters_of Tryz.func32 (by kernel_rfl) rfl
theorem fm66 {S0:Nat->Nat->Prop} {w:World} (hE:Ent S0 w) {f:List Tk} (hf:vld f=0) (hl:f.length<=1000000) (hb:∀ t∈f,t.2.1.length<=gK) {v:Value} (hv:aF S0 w (.sl .no 3 (tks f)) v) :
  ∀ W:World,Below w.heap.size w W->Calls Tryz.prog 66 #[v] W fun e w'=>e=.returned (.tuple #[.string ⟨(fmE f).toArray⟩,.int .i64 0])/\Below W.heap.size W w':=fun W hW=>by
 have c:=c32 f hl hb;rw[hf,rC] at c;have hE':=hE.next hW;refine (tQ c zES hE'.lt hE'.gl (vs:=#[v]) ⟨aF.mono (fun b o hs=>⟨hs,hE.cell hW b o hs⟩) _ _ hv,trivial⟩).mono ?_
 rintro e w' ⟨u,_,_,_,rfl,h1,h2⟩
 exact⟨by rw[V6 h1],h2⟩
theorem XP (n:Nat) (h:n<=1073741824) {S0:Nat->Nat->Prop} {w:World} (hE:Ent S0 w):∀ W:World,Below w.heap.size w W->Calls Tryz.prog 34 #[.int .i64 (n:Int)] W fun e w'=>e=.returned (.string ⟨(dcN n).toArray⟩)/\Below W.heap.size W w':=fun W hW=>by
 have c:=kIt n (by omega);have hE':=hE.next hW;refine (tQ c zET hE'.lt hE'.gl (vs:=#[.int .i64 (n:Int)]) ⟨rfl,trivial⟩).mono ?_
 rintro e w' ⟨u,_,_,_,rfl,⟨b,h1,h3⟩,h2⟩
 exact⟨by rw[h1,tO h3],h2⟩
theorem vZ {s:Bs} (h:kG s=0):s.length<=50000:=by
 obtain⟨c1,c2,_⟩:=eV (s:=s) (g:=(aM s).1) (b:=(aM s).2.1) (by rw[<- h];rfl)
 have:=kW (f:=(aM s).1)
 unfold fmE at this;rw[if_pos c1,c2] at this;exact this
theorem z8 {e:En} (h:VE e) (i:Nat):(vsF (fmE e.S) (fmE e.T) e.p e.n e.a e.j (vlE e 6) (orn.getD (e.o - 1).toNat []) i).length<=60000:=by
 have h0:=kW (f:=e.S);have h1:=kW (f:=e.T);have h2:=vZ h.pp;have h3:=vZ h.pn;have h4:=tU h.na;have h5:=tU h.nj;have h6:=FZ h;have h7:=GV (e.o - 1).toNat
 match i with
 | 0=>show (fmE e.S).length<=_;omega
 | 1=>show (fmE e.T).length<=_;omega
 | 2=>show e.p.length<=_;omega
 | 3=>show e.n.length<=_;omega
 | 4=>show e.a.length<=_;omega
 | 5=>show e.j.length<=_;omega
 | 6=>show (vlE e 6).length<=_;omega
 | k+7=>show (orn.getD (e.o - 1).toNat []).length<=_;omega
theorem NG:∀ k,(fnm.getD k []).length<=8
 | 0 | 1 | 2 | 3 | 4 | 5 | 6 | 7=>by decide
 | k+8=>by simp [fnm]
theorem A3 {f:Nat->List UInt8} (h:∀ i,(f i).length<=60000):∀ i,(jn (oM f i)).length<=i*60010
 | 0=>by simp [oM,jn]
 | i+1=>by
  have h1:=A3 h i;have h2:=jI i (f i);have h3:=h i;have h4:=NG i;show (jn (oM f i++lnE i (f i))).length<=_;rw[xD,length_append];omega
theorem PE {e:En} (h:VE e):szE e<=200048:=by
 have h0:=kW (f:=e.S);have h1:=kW (f:=e.T);have h2:=vZ h.pp;have h3:=vZ h.pn;have h4:=tU h.na;have h5:=tU h.nj;unfold szE;omega
theorem AE {m:List En} (hl:m.length<=100) (h:∀ e∈m,VE e) (i:Nat):(txK m i).length<=100000000:=by
 have h1:=HV (n:=m.length) (by omega);have h2:=xL (B:=200048) (m:=m.take i) (fun e he=>⟨h e (mem_of_mem_take he),PE (h e (mem_of_mem_take he))⟩);have h3:(m.take i).length<=100:=by rw[length_take];omega
 have h4:(m.take i).length*(200048+100)<=100*(200048+100):=Nat.mul_le_mul_right _ h3;unfold txK;rw[length_append,length_cons];omega
structure FOK (m:List En):Prop where
 l:m.length<=100
 b:∀ e∈m,BE e
 c:qH m=0->(∀ e∈m,e.c<=1073741824)/\(txM m).length<=1048576
theorem zCE {S0:Nat->Nat->Prop} {w:World} (hE:Ent S0 w) {e:En} (hV:VE e) (hB:BE e) (hc:e.c<=1073741824) {b o:Nat} (hr:eI S0 w (aN e) b o):∃ v0 v1 t6,RowX w b o e v0 v1 t6:=by
 obtain⟨s0,v0,k0,r0⟩:=hr.get (j:=0) (x:=.sl .no 3 (tks e.S)) rfl;obtain⟨s1,v1,k1,r1⟩:=hr.get (j:=1) (x:=.sl .no 3 (tks e.T)) rfl;obtain⟨s2,v2,k2,b2,rfl,r2⟩:=hr.get (j:=2) (x:=.str e.p) rfl;obtain⟨s3,v3,k3,b3,rfl,r3⟩:=hr.get (j:=3) (x:=.str e.n) rfl;obtain⟨s4,v4,k4,b4,rfl,r4⟩:=hr.get (j:=4) (x:=.str e.a) rfl;obtain⟨s5,v5,k5,b5,rfl,r5⟩:=hr.get (j:=5) (x:=.str e.j) rfl;obtain⟨s6,v6,k6,r6⟩:=hr.get (j:=6) (x:=.int .i64 e.c) rfl;obtain⟨s7,v7,k7,r7⟩:=hr.get (j:=7) (x:=.int .i64 e.o) rfl;have r6:v6=.int .i64 e.c:=r6;have r7:v7=.int .i64 e.o:=r7;rw[tO r2] at k2;rw[tO r3] at k3;rw[tO r4] at k4;rw[tO r5] at k5;rw[r6] at k6;rw[r7] at k7;obtain⟨l1,l2,l3⟩:=hB.lS;obtain⟨l4,l5,l6⟩:=hB.lT;have hc0:=hV.c0;have q0:∃ a l k,v0=.slice a l k:=by
  have:∃ A c,v0=.slice A (tks e.S).length c/\_:=r0
  obtain⟨A,c,h,_⟩:=this;exact⟨_,_,_,h⟩
 have q1:∃ a l k,v1=.slice a l k:=by
  have:∃ A c,v1=.slice A (tks e.T).length c/\_:=r1
  obtain⟨A,c,h,_⟩:=this;exact⟨_,_,_,h⟩
 refine⟨v0,v1,vlE e 6,⟨fun W h=>(hE.cell h _ _ s0).trans k0,fun W h=>(hE.cell h _ _ s1).trans k1,fun W h=>(hE.cell h _ _ s2).trans k2,fun W h=>(hE.cell h _ _ s3).trans k3,fun W h=>(hE.cell h _ _ s4).trans k4,fun W h=>(hE.cell h _ _ s5).trans k5,fun W h=>(hE.cell h _ _ s6).trans k6,fun W h=>(hE.cell h _ _ s7).trans k7,
  fm66 hE hV.vS (by omega) l3 r0,fm66 hE hV.vT (by omega) l6 r1,fun hz W hW=>?_,fun hz=>?_,rfl,q0,q1,hV.o1,hV.o3,fun i=>by have:=z8 hV i;omega,fun i hi=>?_⟩⟩
 ·have:=XP e.c.toNat (by omega) hE W hW
  rw[show ((e.c.toNat:Nat):Int)=e.c by omega] at this;rw[show vlE e 6=dcN e.c.toNat from if_neg hz];exact this
 ·show (if e.c=0 then [] else _)=[]
  rw[if_pos hz]
 ·have:=A3 (z8 hV) i
  omega
end Go.Av
namespace Go.Av
open Go.Proofs Go.RowKit Go.Nt
set_option maxHeartbeats 4000000
theorem NJ {m:List En} (h:FOK m) {S0:Nat->Nat->Prop} {w:World} (hE:Ent S0 w) {v:Value} (hv:aF S0 w (.sl .no 8 (ens m)) v) :
  Calls Tryz.prog 17 #[v] w fun e w'=>e=.returned (.tuple #[.string ⟨(fmM m).1.toArray⟩,.int .i64 (fmM m).2])/\Below w.heap.size w w':=by
 have hchk:∀ W:World,Below w.heap.size w W->Calls Tryz.prog 32 #[v] W fun e w'=>e=.returned (.int .i64 (qH m))/\Below W.heap.size W w':=fun W hW=>by
  have hE':=hE.next hW;refine (tQ (kChk m (by have:=h.l;omega) h.b) zEU hE'.lt hE'.gl (vs:=#[v]) ⟨aF.mono (fun b o hs=>⟨hs,hE.cell hW b o hs⟩) _ _ hv,trivial⟩).mono ?_
  rintro e w' ⟨u,_,_,_,rfl,h1,h2⟩
  have h1:u=.int .i64 (qH m):=h1;exact⟨by rw[h1],h2⟩
 have hl:=h.l;by_cases hc:qH m=0
 ·obtain⟨h1,h2⟩:=(BM m).1 hc
  obtain⟨h3,h4⟩:=h.c hc;rw[FC h2 h1 h4];rw[hc] at hchk;obtain⟨A,c,q1,q2,_,_,q3⟩:∃ A c,v=.slice A (ens m).length c/\(ens m).length<=c/\(Own.no=.full->c=(ens m).length)/\Own.no≠.own/\(ens m=[]\/∃ b o,A=some ⟨b,o,none⟩/\gH S0 w 8 (ens m) b o):=hv;rw[aK] at q1 q2;rcases q3 with q3 | ⟨b,o,q3,q4⟩
  ·have hm:m=[]:=by simpa [ens] using q3
   subst hm;exact UR [] w v A 0 0 c q1 (fun z=>absurd rfl z) q2 (by simp) h4 (fun i=>AE (by simp) h2.1 i) hchk (XP 0 (by decide) hE) (fun i e hi=>by simp at hi)
  ·refine UR m w v A b o c q1 (fun _=>q3) q2 (by omega) h4 (fun i=>AE hl h2.1 i) hchk (XP m.length (by omega) hE) (fun i e hi=>?_)
   have hm:=mem_of_getElem? hi;obtain⟨_,q5⟩:=q4.get (i:=i) (e:=aN e) (by simp [ens,hi]);exact zCE hE (h2.1 e hm) (h.b e hm) (h3 e hm) q5
 ·have:fmM m=([],qH m):=by unfold fmM;rw[if_pos hc]
  rw[this];exact zEN v w (qH m) hc (hchk w (Below.refl _ _))
theorem XY {m:List En} (h:FOK m):iJ Tryz.prog 17 [.sl .no 8 (ens m)] [] (.tup [.str (fmM m).1,.int .i64 (fmM m).2]) []:=by
 intro kd β bs S0 O0 w vs hent hargs;obtain⟨_,h3,h4,h5,h6⟩:=hent;obtain⟨l⟩:=vs
 match l,hargs with
 | [v],⟨hv,_⟩ =>
  have hE:Ent S0 w:=⟨fun b o hs=>(h3 b o hs).1,h6⟩
  refine (NJ h hE hv).mono ?_
  rintro e w' ⟨rfl,hb⟩
  refine⟨_,fun b=>if b < w.heap.size then kd b else .stab,β,bs,rfl,⟨fun i hi=>absurd hi (by simp),Nat.le_refl _,⟨fun i c hi=>(by simp at hi),fun i hi=>(by simp at hi)⟩,⟨_,rfl,⟨_,rfl,by simp⟩,rfl,trivial⟩,hb.os,hb.tape,hb.output,hb.size,fun b q _ _=>hb.block b q,fun b o hs=>hE.cell hb b o hs,fun b k hk=>?_,fun b t k hk=>?_,fun i _ hi=>absurd hi (by simp),fun i hi=>(by simp at hi)⟩⟩
  ·obtain⟨q1,_,t,k',q2,q3⟩:=h4 b k hk
   exact⟨t,k',by rw[if_pos q1];exact q2,q3⟩
  ·by_cases q:b < w.heap.size
   ·rw[if_pos q] at hk
    exact .inr (h5 b t k hk q)
   ·exact .inl (by omega)
theorem F2 {f g:List Tk} (h:tks f=tks g):f=g:=by
 unfold tks at h;refine (map_inj_right (f:=tkR) (fun x y hxy=>?_)).1 h;obtain⟨a,b,c⟩:=x;obtain⟨a',b',c'⟩:=y;simpa [tkR] using hxy
theorem SB {m n:List En} (h:ens m=ens n):m=n:=by
 unfold ens at h;refine (map_inj_right (f:=aN) (fun x y hxy=>?_)).1 h;simp only[aN,List.cons.injEq,AV.sl.injEq,AV.str.injEq,AV.int.injEq,true_and,and_true] at hxy;obtain⟨h1,h2,h3,h4,h5,h6,h7,h8⟩:=hxy;exact En.eq (F2 h1) (F2 h2) h3 h4 h5 h6 h7 h8
def T9:FuncId->Option AFun
 | 4=>some F4
 | 9=>some F9z
 | 10=>some KC
 | 12=>some F12
 | 14=>some J9
 | _=>none
theorem zGB:∀ f F,T9 f=some F->jZ Tryz.prog f F=true:=by
 intro f F h;unfold T9 at h
 split at h
 ·cases h;exact zGE _ _ rfl
 ·cases h;exact ok9z
 ·cases h;exact UD
 ·cases h;exact zGE _ _ rfl
 ·cases h;exact zDE
 ·cases h
open Classical in
noncomputable def fmB:aO:=fun f args sh=>if f=17 then (if h:sh=[]/\∃ m,args=[.sl .no 8 (ens m)]/\FOK m then some (.tup [.str (fmM h.2.choose).1,.int .i64 (fmM h.2.choose).2],[]) else none) else if (T9 f).isSome=true then none else G0 f args sh
theorem NK:iA Tryz.prog fmB:=by
 intro f args sh r sh' h;unfold fmB at h
 split at h
 ·rename_i hf
  subst hf
  split at h
  ·rename_i q
   obtain⟨q1,q2⟩:=q.2.choose_spec;simp only[Option.some.injEq,Prod.mk.injEq] at h;obtain⟨rfl,rfl⟩:=h;generalize q.2.choose=m at q1 q2 ⊢;rw[q.1,q1];exact .inl ⟨⟨Tryz.f17,Tryz.func17,by kernel_rfl,by kernel_rfl⟩,XY q2⟩
  ·cases h
 ·split at h
  ·cases h
  ·exact IX _ _ _ _ _ h
theorem XZ {m:List En} (h:FOK m):fmB 17 [.sl .no 8 (ens m)] []=some (.tup [.str (fmM m).1,.int .i64 (fmM m).2],[]):=by
 unfold fmB;have q:([]:LL)=[]/\∃ m',[AV.sl .no 8 (ens m)]=[.sl .no 8 (ens m')]/\FOK m':=⟨rfl,m,rfl,h⟩
 rw[if_pos rfl,dif_pos q];have q1:=q.2.choose_spec.1
 have:m=q.2.choose:=SB (by simpa using q1)
 rw[<- this]
noncomputable abbrev G9:aO:=Gx fmB T9
theorem IV:iA Tryz.prog G9:=v9 mix NK zGB
theorem up {f:FuncId} {args:List AV} {sh:LL} {r:AV × LL} (h:G0 f args sh=some r) (hf:f≠17) (hT:T9 f=none):G9 f args sh=some r:=by
 refine nH ?_;unfold fmB;rw[if_neg hf,hT,if_neg (by simp)];exact h
theorem k17 {m:List En} (h:FOK m):G9 17 [.sl .no 8 (ens m)] []=some (.tup [.str (fmM m).1,.int .i64 (fmM m).2],[]):=nH (XZ h)
end Go.Av
namespace Go.Av
open Go.Nt
theorem cL (a b:Int):(a == b)=decide (a=b):=by by_cases h:a=b<;>simp [h]
theorem ln44 (s:Bs) (hs:s.length<=10) (M:Int):∀ (r p:Bs) (n:Nat),s=p++r->n < 10 ^ p.length ->
  (r.all dE=true->aC G0 tI (ST [(0,.str s),(1,.int .i64 M),(6,.int .i64 n),(24,.bool false),(26,.int .i64 s.length),(27,.int .i64 p.length)] [] [])=some (.ex 0,ST [(0,.str s),(1,.int .i64 M),(6,.int .i64 (cV r n:Nat)),(24,.bool false),(26,.int .i64 s.length),(27,.int .i64 s.length),(28,.bool false)] [] [])/\cV r n < 10 ^ s.length) /\
  (r.all dE=false->∃ l',aC G0 tI (ST [(0,.str s),(1,.int .i64 M),(6,.int .i64 n),(24,.bool false),(26,.int .i64 s.length),(27,.int .i64 p.length)] [] [])=some (.ret,ST l' [] [])/\aE .any l' 4=.int .i64 0/\aE .any l' 5=.bool false)
 | [],p,n,h,hn=>by
  have h:s=p:=by simp [h]
  subst h;refine⟨fun _=>⟨?_,hn⟩,fun h=>(by simp at h)⟩;rw[aB (L:=tI) rfl];simp only[go_sem,Int.lt_irrefl];rfl
 | c :: r,p,n,h,hn=>by
  have hl:s.length=p.length+1+r.length:=by simp [h];omega
  have h4:(p.length:Int) < (s.length:Int):=by omega
  have h0:(0:Int)<=(p.length:Int):=by omega
  have h5:s[p.length]?=some c:=by rw[h];simp
  have hw:IntKind.i64.wrap ((p.length:Int)+1)=((p.length+1:Nat):Int):=by rw[w64 (by omega) (by omega)];rfl
  have hI:=xO c;have e1:((p++[c]).length:Int)=((p.length+1:Nat):Int):=by simp
  have hp3:10 ^ p.length<=10 ^ 10:=Nat.pow_le_pow_right (by decide) (by omega);rw[all_cons];cases hc:dE c with
  | true =>
   obtain⟨a1,a2⟩:=hI.1 hc;have ih:=ln44 s hs M r (p++[c]) (10*n+(c.toNat - 48)) (by simp [h]) (by rw[length_append,length_singleton,Nat.pow_succ];omega);rw[e1] at ih;have b1:¬ (c.toNat:Int) < 48:=by omega
   have b2:¬ 57 < (c.toNat:Int):=by omega
   have w1:IntKind.i64.wrap (10*(n:Int))=10*(n:Int):=w64 (by omega) (by omega);have w2:IntKind.u8.wrap ((c.toNat:Int) - 48)=(c.toNat:Int) - 48:=wu8 (by omega) (by omega);have w3:IntKind.i64.wrap ((c.toNat:Int) - 48)=(c.toNat:Int) - 48:=w64 (by omega) (by omega);have w4:IntKind.i64.wrap (10*(n:Int)+((c.toNat:Int) - 48))=((10*n+(c.toNat - 48):Nat):Int):=by rw[w64 (by omega) (by omega)];omega
   have step:aC G0 tI (ST [(0,.str s),(1,.int .i64 M),(6,.int .i64 n),(24,.bool false),(26,.int .i64 s.length),(27,.int .i64 p.length)] [] [])=aC G0 tI (ST [(0,.str s),(1,.int .i64 M),(6,.int .i64 ((10*n+(c.toNat - 48):Nat):Int)),(24,.bool false),(26,.int .i64 s.length),(27,.int .i64 ((p.length+1:Nat):Int))] [] []):=by
    conv=>lhs;rw[aB (L:=tI) rfl]
    simp only[go_sem,h4,h5,h0,b1,b2,w1,w2,w3,w4,hw]
   rw[step,Bool.true_and];exact ih
  | false =>
   refine⟨fun q=>(by simp at q),fun _=>?_⟩;by_cases a1:(c.toNat:Int) < 48
   ·refine Exists.intro ?_ (And.intro ?_ ?_)
    rotate_left 1
    ·rw[aB (L:=tI) rfl]
     simp only[go_sem,h4,h5,h0,a1];rfl
    ·exact⟨rfl,rfl⟩
   ·have a2:57 < (c.toNat:Int):=by
     by_cases q:57 < (c.toNat:Int)
     ·exact q
     ·rw[hI.2 ⟨by omega,by omega⟩] at hc;cases hc
    refine Exists.intro ?_ (And.intro ?_ ?_)
    rotate_left 1
    ·rw[aB (L:=tI) rfl]
     simp only[go_sem,h4,h5,h0,a1,a2];rfl
    ·exact⟨rfl,rfl⟩
theorem M1 (s:Bs) (most:Nat):∃ (n:Int) (b:Bool),G0 44 [.str s,.int .i64 most] []=some (.tup [.int .i64 n,.bool b],[])/\b=(eZ s most).isSome/\∀ k,eZ s most=some k->n=(k:Int):=by
 by_cases h1:s=[]
 ·subst h1
  refine⟨0,false,?_,rfl,fun k hk=>(by cases hk)⟩;refine aA F44 rfl rfl rfl ?_;simp only[F44,go_sem,beq_self_eq_true]
 have h1':(s == [])=false:=by simpa using h1
 have hl:1<=s.length:=by cases s with | nil=>exact absurd rfl h1 | cons=>simp
 by_cases h2:10 < s.length
 ·have h2':(10:Int) < (s.length:Int):=by omega
  have hn:eZ s most=none:=by unfold eZ;rw[if_neg (fun q=>by omega)]
  refine⟨0,false,?_,by rw[hn];rfl,fun k hk=>(by rw[hn] at hk;cases hk)⟩;refine aA F44 rfl rfl rfl ?_;simp only[F44,go_sem,h1',h2']
 have h2':¬ (10:Int) < (s.length:Int):=by omega
 have h3:=zJ (s:=s) (by omega);have hh:s.head?=some (s.headD 0):=by cases s with | nil=>exact absurd rfl h1 | cons=>rfl
 generalize s.headD 0=c at h3 hh;by_cases h4:1 < s.length/\c=48
 ·have h4':(1:Int) < (s.length:Int):=by omega
  have h5':(c.toNat:Int)=48:=by rw[h4.2];rfl
  have hn:eZ s most=none:=by unfold eZ;rw[if_neg (fun q=>q.2.2.1 ⟨h4.1,by rw[hh,h4.2]⟩)]
  refine⟨0,false,?_,by rw[hn];rfl,fun k hk=>(by rw[hn] at hk;cases hk)⟩;refine aA F44 rfl rfl rfl ?_;simp only[F44,go_sem,h1',h2',h3,h4',h5',cL]
 obtain⟨x1,x2⟩:=ln44 s (by omega) most s [] 0 rfl (by simp);have ec:((([]:Bs).length:Nat):Int)=0:=rfl;have ec2:(((0:Nat)):Int)=0:=rfl;rw[ec,ec2] at x1 x2;cases hv:s.all dE with
 | true =>
  obtain⟨y1,y2⟩:=x1 hv;have hp3:10 ^ s.length<=10 ^ 10:=Nat.pow_le_pow_right (by decide) (by omega);refine⟨(cV s 0:Nat),decide ((cV s 0:Int)<=(most:Int)),?_,?_,fun k hk=>?_⟩
  ·refine aA F44 rfl rfl rfl ?_
   by_cases g1:(1:Int) < (s.length:Int)
   ·have g2:¬ (c.toNat:Int)=48:=cH fun q=>h4 ⟨by omega,q⟩
    simp only[F44,go_sem,h1',h2',h3,g1,g2,y1,cL,decide_false]
   ·simp only[F44,go_sem,h1',h2',g1,y1]
  ·unfold eZ
   by_cases q:cV s 0<=most
   ·rw[if_pos ⟨hl,by omega,fun z=>h4 ⟨z.1,by rw[hh] at z;exact Option.some.inj z.2⟩,hv,q⟩,decide_eq_true (by omega)];rfl
   ·rw[if_neg (fun z=>q z.2.2.2.2),decide_eq_false (by omega)];rfl
  ·unfold eZ at hk
   split at hk
   ·cases hk;rfl
   ·cases hk
 | false =>
  obtain⟨l',y1,y2,y3⟩:=x2 hv;have hn:eZ s most=none:=by unfold eZ;rw[if_neg (fun q=>by rw[hv] at q;exact absurd q.2.2.2.1 (by decide))]
  refine⟨0,false,?_,by rw[hn];rfl,fun k hk=>(by rw[hn] at hk;cases hk)⟩;refine aA F44 rfl rfl rfl ?_;by_cases g1:(1:Int) < (s.length:Int)
  ·have g2:¬ (c.toNat:Int)=48:=cH fun q=>h4 ⟨by omega,q⟩
   simp only[F44,go_sem,h1',h2',h3,g1,g2,y1,y2,y3,cL,decide_false]
  ·simp only[F44,go_sem,h1',h2',g1,y1,y2,y3]
theorem ln72 (s:Bs) (hs:s.length<=10) (M:Int):∀ (r p:Bs) (n:Nat),s=p++r->n < 10 ^ p.length ->
  (r.all dE=true->aC G0 tE (ST [(0,.str s),(1,.int .i64 M),(6,.int .i64 n),(7,.int .i64 p.length),(24,.bool false)] [] [])=some (.ex 0,ST [(0,.str s),(1,.int .i64 M),(6,.int .i64 (cV r n:Nat)),(7,.int .i64 s.length),(24,.bool false),(28,.bool false)] [] [])/\cV r n < 10 ^ s.length) /\
  (r.all dE=false->∃ l',aC G0 tE (ST [(0,.str s),(1,.int .i64 M),(6,.int .i64 n),(7,.int .i64 p.length),(24,.bool false)] [] [])=some (.ret,ST l' [] [])/\aE .any l' 4=.int .i64 0/\aE .any l' 5=.bool false)
 | [],p,n,h,hn=>by
  have h:s=p:=by simp [h]
  subst h;refine⟨fun _=>⟨?_,hn⟩,fun h=>(by simp at h)⟩;rw[aB (L:=tE) rfl];simp only[go_sem,Int.lt_irrefl];rfl
 | c :: r,p,n,h,hn=>by
  have hl:s.length=p.length+1+r.length:=by simp [h];omega
  have h4:(p.length:Int) < (s.length:Int):=by omega
  have h0:(0:Int)<=(p.length:Int):=by omega
  have h5:s[p.length]?=some c:=by rw[h];simp
  have hw:IntKind.i64.wrap ((p.length:Int)+1)=((p.length+1:Nat):Int):=by rw[w64 (by omega) (by omega)];rfl
  have hI:=xO c;have e1:((p++[c]).length:Int)=((p.length+1:Nat):Int):=by simp
  have hp3:10 ^ p.length<=10 ^ 10:=Nat.pow_le_pow_right (by decide) (by omega);rw[all_cons];cases hc:dE c with
  | true =>
   obtain⟨a1,a2⟩:=hI.1 hc;have ih:=ln72 s hs M r (p++[c]) (10*n+(c.toNat - 48)) (by simp [h]) (by rw[length_append,length_singleton,Nat.pow_succ];omega);rw[e1] at ih;have b1:¬ (c.toNat:Int) < 48:=by omega
   have b2:¬ 57 < (c.toNat:Int):=by omega
   have w1:IntKind.i64.wrap ((n:Int)*10)=(n:Int)*10:=w64 (by omega) (by omega);have w2:IntKind.u8.wrap ((c.toNat:Int) - 48)=(c.toNat:Int) - 48:=wu8 (by omega) (by omega);have w3:IntKind.i64.wrap ((c.toNat:Int) - 48)=(c.toNat:Int) - 48:=w64 (by omega) (by omega);have w4:IntKind.i64.wrap ((n:Int)*10+((c.toNat:Int) - 48))=((10*n+(c.toNat - 48):Nat):Int):=by rw[w64 (by omega) (by omega)];omega
   have step:aC G0 tE (ST [(0,.str s),(1,.int .i64 M),(6,.int .i64 n),(7,.int .i64 p.length),(24,.bool false)] [] [])=aC G0 tE (ST [(0,.str s),(1,.int .i64 M),(6,.int .i64 ((10*n+(c.toNat - 48):Nat):Int)),(7,.int .i64 ((p.length+1:Nat):Int)),(24,.bool false)] [] []):=by
    conv=>lhs;rw[aB (L:=tE) rfl]
    simp only[go_sem,h4,h5,h0,b1,b2,w1,w2,w3,w4,hw]
   rw[step,Bool.true_and];exact ih
  | false =>
   refine⟨fun q=>(by simp at q),fun _=>?_⟩;by_cases a1:(c.toNat:Int) < 48
   ·refine Exists.intro ?_ (And.intro ?_ ?_)
    rotate_left 1
    ·rw[aB (L:=tE) rfl]
     simp only[go_sem,h4,h5,h0,a1];rfl
    ·exact⟨rfl,rfl⟩
   ·have a2:57 < (c.toNat:Int):=by
     by_cases q:57 < (c.toNat:Int)
     ·exact q
     ·rw[hI.2 ⟨by omega,by omega⟩] at hc;cases hc
    refine Exists.intro ?_ (And.intro ?_ ?_)
    rotate_left 1
    ·rw[aB (L:=tE) rfl]
     simp only[go_sem,h4,h5,h0,a1,a2];rfl
    ·exact⟨rfl,rfl⟩
theorem XA (s:Bs) (most:Nat):∃ (n:Int) (b:Bool),G0 72 [.str s,.int .i64 most] []=some (.tup [.int .i64 n,.bool b],[])/\b=(eZ s most).isSome/\∀ k,eZ s most=some k->n=(k:Int):=by
 by_cases h1:s=[]
 ·subst h1
  refine⟨0,false,?_,rfl,fun k hk=>(by cases hk)⟩;refine aA F72 rfl rfl rfl ?_;simp only[F72,go_sem,beq_self_eq_true]
 have h1':(s == [])=false:=by simpa using h1
 have hl:1<=s.length:=by cases s with | nil=>exact absurd rfl h1 | cons=>simp
 by_cases h2:10 < s.length
 ·have h2':(10:Int) < (s.length:Int):=by omega
  have hn:eZ s most=none:=by unfold eZ;rw[if_neg (fun q=>by omega)]
  refine⟨0,false,?_,by rw[hn];rfl,fun k hk=>(by rw[hn] at hk;cases hk)⟩;refine aA F72 rfl rfl rfl ?_;simp only[F72,go_sem,h1',h2']
 have h2':¬ (10:Int) < (s.length:Int):=by omega
 have h3:=zJ (s:=s) (by omega);have hh:s.head?=some (s.headD 0):=by cases s with | nil=>exact absurd rfl h1 | cons=>rfl
 generalize s.headD 0=c at h3 hh;by_cases h4:1 < s.length/\c=48
 ·have h4':(1:Int) < (s.length:Int):=by omega
  have h5':(c.toNat:Int)=48:=by rw[h4.2];rfl
  have hn:eZ s most=none:=by unfold eZ;rw[if_neg (fun q=>q.2.2.1 ⟨h4.1,by rw[hh,h4.2]⟩)]
  refine⟨0,false,?_,by rw[hn];rfl,fun k hk=>(by rw[hn] at hk;cases hk)⟩;refine aA F72 rfl rfl rfl ?_;simp only[F72,go_sem,h1',h2',h3,h4',h5',cL]
 obtain⟨x1,x2⟩:=ln72 s (by omega) most s [] 0 rfl (by simp);have ec:((([]:Bs).length:Nat):Int)=0:=rfl;have ec2:(((0:Nat)):Int)=0:=rfl;rw[ec,ec2] at x1 x2;cases hv:s.all dE with
 | true =>
  obtain⟨y1,y2⟩:=x1 hv;have hp3:10 ^ s.length<=10 ^ 10:=Nat.pow_le_pow_right (by decide) (by omega);refine⟨(cV s 0:Nat),decide ((cV s 0:Int)<=(most:Int)),?_,?_,fun k hk=>?_⟩
  ·refine aA F72 rfl rfl rfl ?_
   by_cases g1:(1:Int) < (s.length:Int)
   ·have g2:¬ (c.toNat:Int)=48:=cH fun q=>h4 ⟨by omega,q⟩
    simp only[F72,go_sem,h1',h2',h3,g1,g2,y1,cL,decide_false]
   ·simp only[F72,go_sem,h1',h2',g1,y1]
  ·unfold eZ
   by_cases q:cV s 0<=most
   ·rw[if_pos ⟨hl,by omega,fun z=>h4 ⟨z.1,by rw[hh] at z;exact Option.some.inj z.2⟩,hv,q⟩,decide_eq_true (by omega)];rfl
   ·rw[if_neg (fun z=>q z.2.2.2.2),decide_eq_false (by omega)];rfl
  ·unfold eZ at hk
   split at hk
   ·cases hk;rfl
   ·cases hk
 | false =>
  obtain⟨l',y1,y2,y3⟩:=x2 hv;have hn:eZ s most=none:=by unfold eZ;rw[if_neg (fun q=>by rw[hv] at q;exact absurd q.2.2.2.1 (by decide))]
  refine⟨0,false,?_,by rw[hn];rfl,fun k hk=>(by rw[hn] at hk;cases hk)⟩;refine aA F72 rfl rfl rfl ?_;by_cases g1:(1:Int) < (s.length:Int)
  ·have g2:¬ (c.toNat:Int)=48:=cH fun q=>h4 ⟨by omega,q⟩
   simp only[F72,go_sem,h1',h2',h3,g1,g2,y1,y2,y3,cL,decide_false]
  ·simp only[F72,go_sem,h1',h2',g1,y1,y2,y3]
theorem kPre (s b:Bs):G0 102 [.str s,.str b] []=some (.bool (b.isPrefixOf s),[]):=by
 refine aA FU rfl rfl rfl ?_;by_cases h:(b.length:Int)<=(s.length:Int)
 ·have h0:(0:Int)<=(b.length:Int):=by omega
  have e:(s.take b.length == b)=b.isPrefixOf s:=by
   rw[Bool.eq_iff_iff,beq_iff_eq,isPrefixOf_iff_prefix];exact⟨fun q=>by rw[<- q];exact take_prefix _ _,fun q=>(prefix_iff_eq_take.1 q).symm⟩
  simp only[FU,go_sem,h,h0,e]
 ·have e:b.isPrefixOf s=false:=by
   cases q:b.isPrefixOf s with
   | false=>rfl
   | true=>have:=(isPrefixOf_iff_prefix.1 q).length_le;omega
  simp only[FU,go_sem,h,e]
theorem UM (s b:Bs):(∀ v,after b s=some v->G0 43 [.str s,.str b] []=some (.tup [.str v,.bool true],[]))/\(after b s=none->G0 43 [.str s,.str b] []=some (.tup [.str s,.bool false],[])):=by
 have a:=kPre s b;unfold after
 cases q:b.isPrefixOf s with
 | true =>
  rw[q] at a;have hl:=(isPrefixOf_iff_prefix.1 q).length_le;have h1:(b.length:Int)<=(s.length:Int):=by omega
  have h0:(0:Int)<=(b.length:Int):=by omega
  have c:G0 75 [.str s,.str b] []=some (.tup [.str (s.drop b.length),.bool true],[]):=by
   refine aA F75 rfl rfl rfl ?_;simp only[F75,go_sem,a,h0,h1,take_length]
  refine⟨fun v hv=>?_,fun h=>(by cases h)⟩;cases hv;refine aA F43 rfl rfl rfl ?_;simp only[F43,go_sem,c]
 | false =>
  rw[q] at a;have c:G0 75 [.str s,.str b] []=some (.tup [.str s,.bool false],[]):=by
   refine aA F75 rfl rfl rfl ?_;simp only[F75,go_sem,a]
  refine⟨fun v hv=>(by cases hv),fun _=>?_⟩;refine aA F43 rfl rfl rfl ?_;simp only[F43,go_sem,c]
theorem kAft (s b:Bs):(∀ v,after b s=some v->G0 22 [.str s,.str b] []=some (.tup [.str v,.bool true],[]))/\(after b s=none->G0 22 [.str s,.str b] []=some (.tup [.str [],.bool false],[])):=by
 unfold after;by_cases h:(s.length:Int) < (b.length:Int)
 ·have e:b.isPrefixOf s=false:=by
   cases q:b.isPrefixOf s with
   | false=>rfl
   | true=>have:=(isPrefixOf_iff_prefix.1 q).length_le;omega
  rw[e];refine⟨fun v hv=>(by cases hv),fun _=>?_⟩;refine aA F22 rfl rfl rfl ?_;simp only[F22,go_sem,h]
 ·have h1:(b.length:Int)<=(s.length:Int):=by omega
  have h0:(0:Int)<=(b.length:Int):=by omega
  cases q:b.isPrefixOf s with
  | true =>
   have e:(s.take b.length != b)=false:=by simpa using (prefix_iff_eq_take.1 (isPrefixOf_iff_prefix.1 q)).symm
   refine⟨fun v hv=>?_,fun h=>(by cases h)⟩;cases hv;refine aA F22 rfl rfl rfl ?_;simp only[F22,go_sem,h,h0,h1,e,take_length]
  | false =>
   have e:(s.take b.length != b)=true:=by
    simp only[bne_iff_ne,ne_eq];intro z;rw[isPrefixOf_iff_prefix.2 (by rw[<- z];exact take_prefix _ _)] at q;cases q
   refine⟨fun v hv=>(by cases hv),fun _=>?_⟩;refine aA F22 rfl rfl rfl ?_;simp only[F22,go_sem,h,h0,h1,e]
end Go.Av
