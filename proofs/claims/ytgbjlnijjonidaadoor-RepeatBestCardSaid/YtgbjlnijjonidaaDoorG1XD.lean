/- Writing a fragment: the program's and the reference's. Writing a fragment: items, and whole fragments. -/
import Derived.Test.YtgbjlnijjonidaaDoorG1XC
open List
set_option linter.unusedSimpArgs false
set_option linter.unusedVariables false
set_option linter.unusedSectionVars false
set_option maxRecDepth 100000
set_option maxHeartbeats 16000000
namespace Go.Av
open Go.Nt
set_option maxHeartbeats 8000000
def bcl (b:Bs):List AV:=b.map fun c=>.int .u8 (c.toNat:Int)
theorem t0 (b:Bs):(bcl b).length=b.length:=by simp [bcl]
theorem J5 (a b:Bs):bcl (a++b)=bcl a++bcl b:=by simp [bcl]
theorem v6:∀ b:Bs,(bcl b).all eE=true
 | []=>rfl
 | c :: b=>by
  show (eE _ && (bcl b).all eE)=true;rw[v6 b];rfl
theorem J4:∀ b:Bs,bP (bcl b)=true
 | []=>rfl
 | c :: b=>rfl
theorem uM (b:Bs):(aM b).flatten=bcl b:=by
 induction b with
 | nil=>rfl
 | cons c b ih =>
  show [AV.int .u8 (c.toNat:Int)]++(aM b).flatten=AV.int .u8 (c.toNat:Int) :: bcl b;rw[ih];rfl
theorem d7 (b:Bs):(aM b).length=b.length:=by simp [aM]
def BSt (v:AV) (sh:LL) (b:Bs):Prop:=
 (b=[]/\v=.sl .full 1 []/\sh=[])\/(∃ D:LL,v=.ss D.length 0 b.length 1/\sh=D++[bcl b])
theorem BSt.scrub {v:AV} {sh:LL} {b:Bs} (h:BSt v sh b) (k:List Nat):aQ k v=v:=by
 rcases h with ⟨_,rfl,_⟩ | ⟨D,rfl,_⟩<;>rfl
theorem BSt.dem {v:AV} {sh:LL} {b:Bs} (h:BSt v sh b):aH v=v:=by
 rcases h with ⟨_,rfl,_⟩ | ⟨D,rfl,_⟩<;>rfl
theorem BSt.arg {v:AV} {sh:LL} {b:Bs} (h:BSt v sh b):d8 true v=true:=by
 rcases h with ⟨_,rfl,_⟩ | ⟨D,rfl,_⟩<;>rfl
theorem FT {v:AV} {sh:LL} {b:Bs} (h:BSt v sh b) (r:Bs) (hr:r≠[]) (hl:b.length+r.length<=1000000):∃ v' sh',BSt v' sh' (b++r)/\eS 1 1 sh (some (aM r)) v=some (v',sh'):=by
 have ha:cG 1 (b.length+r.length)=true:=bH (by decide) (by omega);rcases h with ⟨rfl,rfl,rfl⟩ | ⟨D,rfl,rfl⟩
 ·cases r with
  | nil=>exact absurd rfl hr
  | cons c r =>
   refine⟨.ss 0 0 (c :: r).length 1,[bcl (c :: r)],.inr ⟨[],by simp,by simp⟩,?_⟩;have e:aM (c :: r)=[AV.int .u8 (c.toNat:Int)] :: aM r:=rfl;have e2:=uM (c :: r);rw[e] at e2 ⊢;simp only[length_nil,length_cons,Nat.zero_add] at ha;rw[jT 1 1 1 (by decide),d7,if_pos ha,e2];rfl
 ·refine⟨.ss (D++[bB]).length 0 (b++r).length 1,(D++[bB])++[bcl (b++r)],.inr ⟨D++[bB],rfl,rfl⟩,?_⟩
  rw[mL D.length b.length 1 1 (by decide),d7,if_pos ha,gD];simp only[Option.bind_some];rw[if_pos ⟨J4 b,by rw[t0];omega,v6 b⟩,uM,sD,J5,length_append,length_append,length_append];rfl
theorem jI:∀ b:Bs,aX (aM b)=some b
 | []=>rfl
 | c :: b=>by
  have e:aM (c :: b)=[AV.int .u8 (c.toNat:Int)] :: aM b:=rfl;rw[e];simp only[aX,qT,jI b,Int.toNat_natCast];simp
theorem BF (b:Bs):cV 0 b.length 1 (bcl b)=some (aM b):=by
 have h1:∀ b:Bs,(bcl b).all (fun x=>a9 (aH x))=true:=by
  intro b
  induction b with
  | nil=>rfl
  | cons c b ih =>
   show (a9 _ && (bcl b).all _)=true;rw[ih];rfl
 have h2:∀ b:Bs,(bcl b).map aH=bcl b:=by
  intro b
  induction b with
  | nil=>rfl
  | cons c b ih =>
   show aH _ :: (bcl b).map aH=_;rw[ih];rfl
 have h3:∀ b:Bs,cK 1 b.length (bcl b)=aM b:=by
  intro b
  induction b with
  | nil=>rfl
  | cons c b ih =>
   show (bcl (c :: b)).take 1 :: cK 1 b.length ((bcl (c :: b)).drop 1)=_;have e:(bcl (c :: b)).drop 1=bcl b:=rfl;rw[e,ih];rfl
 unfold cV;have h4:((bcl b).drop 0).take (b.length*1)=bcl b:=by rw[drop_zero];exact take_of_length_le (by rw[t0];omega)
 rw[h4,h2,h3,if_pos ⟨by decide,by rw[t0];omega,h1 b⟩]
theorem BSt.str {v:AV} {sh:LL} {b:Bs} (h:BSt v sh b):B7 sh v=some (.str b):=by
 rcases h with ⟨rfl,rfl,rfl⟩ | ⟨D,rfl,rfl⟩
 ·rfl
 ·rw[J6,gD]
  simp only[Option.bind_some,BF,jI,Option.map_some]
theorem xW (c:UInt8):(wrt c).length<=4:=by
 have:=dF (fun c=>decide ((wrt c).length<=4)) (by decide) c
 simpa using this
theorem CC (s:Bs):(s.flatMap wrt).length<=4*s.length:=by
 induction s with
 | nil=>simp
 | cons c s ih=>rw[flatMap_cons,length_append,length_cons];have:=xW c;omega
theorem u0 (x y:Int):fD 1 [.int .u8 0] 2 [0,1] [.int .u8 x,.int .u8 y]=some (.sl .full 1 [[.int .u8 x],[.int .u8 y]]):=rfl
theorem RU (x y z t:Int):fD 1 [.int .u8 0] 4 [0,1,2,3] [.int .u8 x,.int .u8 y,.int .u8 z,.int .u8 t]=some (.sl .full 1 [[.int .u8 x],[.int .u8 y],[.int .u8 z],[.int .u8 t]]):=rfl
theorem l51 (s:Bs) (hs:s.length<=100000):∀ (r p b:Bs) (v:AV) (sh:LL),s=p++r->BSt v sh b->b.length+4*r.length<=1000000 ->
  ∃ v' sh',BSt v' sh' (b++r.flatMap wrt)/\aD G0 j9 (ST [(0,v),(1,.str s),(5,.int .i64 p.length)] [] sh)=some (.ex 0,ST [(0,v'),(1,.str s),(5,.int .i64 s.length),(10,.bool false)] [] sh')
 | [],p,b,v,sh,h,hst,hl=>by
  have h:s=p:=by simp [h]
  subst h;refine⟨v,sh,by simpa using hst,?_⟩;have hs1:=hst.scrub;rw[aA (L:=j9) rfl];simp only[go_sem,hs1,Int.lt_irrefl]
 | c :: r,p,b,v,sh,h,hst,hl=>by
  have hll:s.length=p.length+1+r.length:=by simp [h];omega
  have h4:(p.length:Int) < (s.length:Int):=by omega
  have h0:(0:Int)<=(p.length:Int):=by omega
  have h5:s[p.length]?=some c:=by rw[h];simp
  have hw:IntKind.i64.wrap ((p.length:Int)+1)=((p.length+1:Nat):Int):=by rw[w64 (by omega) (by omega)];rfl
  simp only[length_cons] at hl;have hwl:=xW c;obtain⟨v1,sh1,q1,q2⟩:=FT hst (wrt c) (LM c) (by omega);obtain⟨v',sh',q3,q4⟩:=l51 s hs r (p++[c]) (b++wrt c) v1 sh1 (by simp [h]) q1 (by rw[length_append];omega);refine⟨v',sh',by rw[flatMap_cons,<- append_assoc];exact q3,?_⟩;have e1:((p++[c]).length:Int)=((p.length+1:Nat):Int):=by simp
  rw[e1] at q4;have hs0:=hst.scrub;have hs1:=q1.scrub;have hd0:=hst.dem;have hd1:=q1.dem;have c77:=XU c;cases hp:eR c with
  | true =>
   rw[hp] at c77;rw[gZ c hp] at q2;have q2:eS 1 1 sh (some [[AV.int .u8 (c.toNat:Int)]]) v=some (v1,sh1):=q2;rw[aA (L:=j9) rfl];simp only[go_sem,h4,h0,h5,hw,c77,hs0,hs1,hd0,hd1,RV,q2];exact q4
  | false =>
   rw[hp] at c77;have e10:(c.toNat:Int)=10↔c=10:=by rw[<- UInt8.toNat_inj];show _↔c.toNat=10;omega
   have e9:(c.toNat:Int)=9↔c=9:=by rw[<- UInt8.toNat_inj];show _↔c.toNat=9;omega
   have e92:(c.toNat:Int)=92↔c=92:=by rw[<- UInt8.toNat_inj];show _↔c.toNat=92;omega
   have e60:(c.toNat:Int)=60↔c=60:=by rw[<- UInt8.toNat_inj];show _↔c.toNat=60;omega
   have e123:(c.toNat:Int)=123↔c=123:=by rw[<- UInt8.toNat_inj];show _↔c.toNat=123;omega
   by_cases k1:c=10
   ·subst k1
    have n1:(((10:UInt8).toNat:Nat):Int)=10:=rfl;have q2:eS 1 1 sh (some [[AV.int .u8 92],[AV.int .u8 110]]) v=some (v1,sh1):=q2;rw[aA (L:=j9) rfl];rw[n1] at c77;simp only[go_sem,h4,h0,h5,hw,n1,c77,hs0,hs1,hd0,hd1,u0,q2];exact q4
   have k1':¬ (c.toNat:Int)=10:=fun q=>k1 (e10.1 q)
   by_cases k2:c=9
   ·subst k2
    have n1:(((9:UInt8).toNat:Nat):Int)=9:=rfl;have q2:eS 1 1 sh (some [[AV.int .u8 92],[AV.int .u8 116]]) v=some (v1,sh1):=q2;rw[aA (L:=j9) rfl];rw[n1] at c77;simp only[go_sem,h4,h0,h5,hw,n1,c77,hs0,hs1,hd0,hd1,u0,q2];exact q4
   have k2':¬ (c.toNat:Int)=9:=fun q=>k2 (e9.1 q)
   by_cases k3:c=92\/c=60\/c=123
   ·have ew:wrt c=[92,c]:=by unfold wrt;rw[if_pos k3]
    rw[ew] at q2;have q2:eS 1 1 sh (some [[AV.int .u8 92],[AV.int .u8 (c.toNat:Int)]]) v=some (v1,sh1):=q2;rcases k3 with k3 | k3 | k3
    ·have k3':=e92.2 k3
     rw[k3'] at q2 c77;rw[aA (L:=j9) rfl];simp only[go_sem,h4,h0,h5,hw,c77,k3',hs0,hs1,hd0,hd1,u0,q2];exact q4
    ·have k3':=e60.2 k3
     rw[k3'] at q2 c77;rw[aA (L:=j9) rfl];simp only[go_sem,h4,h0,h5,hw,c77,k3',hs0,hs1,hd0,hd1,u0,q2];exact q4
    ·have k3':=e123.2 k3
     rw[k3'] at q2 c77;rw[aA (L:=j9) rfl];simp only[go_sem,h4,h0,h5,hw,c77,k3',hs0,hs1,hd0,hd1,u0,q2];exact q4
   ·have k31:¬ (c.toNat:Int)=92:=fun q=>k3 (.inl (e92.1 q))
    have k32:¬ (c.toNat:Int)=60:=fun q=>k3 (.inr (.inl (e60.1 q)))
    have k33:¬ (c.toNat:Int)=123:=fun q=>k3 (.inr (.inr (e123.1 q)))
    have h4x:c=13\/ctl c=true:=by
     have:=dF (fun c=>eR c || decide (c=92) || decide (c=60) || decide (c=123) || decide (c=10) || decide (c=9) || decide (c=13) || ctl c) (by decide) c
     simp only[hp,Bool.false_or,Bool.or_eq_true,decide_eq_true_eq] at this;rcases this with (((((h | h) | h) | h) | h) | h) | h
     ·exact absurd (.inl h) k3
     ·exact absurd (.inr (.inl h)) k3
     ·exact absurd (.inr (.inr h)) k3
     ·exact absurd h k1
     ·exact absurd h k2
     ·exact .inl h
     ·exact .inr h
    have ew:=E7 c h4x;rw[ew] at q2;have q2:eS 1 1 sh (some [[AV.int .u8 92],[AV.int .u8 120],[AV.int .u8 ((kN (c.toNat / 16)).toNat:Int)],[AV.int .u8 ((kN (c.toNat % 16)).toNat:Int)]]) v=some (v1,sh1):=q2;have hlt:=c.toNat_lt;have a1:((c.toNat:Int)).fdiv (2 ^ (min 4 8))=((c.toNat / 16:Nat):Int):=by
     have:(2:Int) ^ (min 4 8)=16:=rfl
     rw[this,Int.fdiv_eq_ediv_of_nonneg _ (by omega)];omega
    have a2:IntKind.u8.wrap ((((c.toNat:Int) % 2 ^ 8).toNat &&& ((15:Int) % 2 ^ 8).toNat:Nat):Int)=((c.toNat % 16:Nat):Int):=by
     have e:(2:Int) ^ 8=256:=rfl;have e2:((15:Int) % 256).toNat=2 ^ 4 - 1:=rfl;have e3:((c.toNat:Int) % 256).toNat=c.toNat:=by omega
     rw[e,e2,e3,Nat.and_two_pow_sub_one_eq_mod,wu8 (by omega) (by omega)]
    have b0:(0:Int)<=((c.toNat / 16:Nat):Int):=by omega
    have b1:(0:Int)<=((c.toNat % 16:Nat):Int):=by omega
    have g1:=zX (n:=c.toNat / 16) (by omega);have g2:=zX (n:=c.toNat % 16) (by omega);simp only[NI] at g1 g2;rw[aA (L:=j9) rfl];simp only[go_sem,h4,h0,h5,hw,c77,k1',k2',k31,k32,k33,hs0,hs1,hd0,hd1,a1,a2,b0,b1,g1,g2,RU,q2];exact q4
theorem c51 {v:AV} {sh:LL} {b:Bs} (h:BSt v sh b) (s:Bs) (hs:s.length<=100000) (hl:b.length+4*s.length<=1000000):∃ v' sh',BSt v' sh' (b++s.flatMap wrt)/\G0 61 [v,.str s] sh=some (v',sh'):=by
 obtain⟨v',sh',q1,q2⟩:=l51 s hs s [] b v sh rfl h hl;have ec:((([]:Bs).length:Nat):Int)=0:=rfl;rw[ec] at q2;refine⟨v',sh',q1,?_⟩;refine aB F61 rfl rfl rfl ?_;have hs0:=h.scrub;have hs1:=q1.scrub;have hd1:=q1.dem;have hd0:=h.dem;simp only[F61,go_sem,hs0,hd0,q2,hs1,hd1];rcases q1 with ⟨_,rfl,rfl⟩ | ⟨D,rfl,rfl⟩
 ·simp only[go_sem]
 ·simp only[go_sem]
end Go.Av
namespace Go.Av
open Go.Nt
set_option maxHeartbeats 8000000
theorem mN (a b:Bs) (h:a.length+b.length<=140737488355328):dX .add (.str a) (.str b)=some (.str (a++b)):=by rw[FQ,if_pos h]
theorem z4 (n:Nat):(Nt.dec n).length<=3:=by unfold Nt.dec;split;simp;split<;>simp
theorem I3 {s:Bs} (h:isC s=true):s.length<=64:=by
 unfold isC at h;simp only[Bool.and_eq_true,decide_eq_true_eq] at h;exact h.1.1.1.1
theorem qP {f:List Tk} {k:Int} {s:Bs} {i:Int} (h:chk f (k,s,i)=0):(k=1/\i=0)\/(s.length<=64/\0<=i/\i<=999/\(k=2\/k=3\/k=4\/k=5)):=by
 by_cases hk:k=1
 ·subst hk;exact .inl ⟨rfl,((fG (x:=(1,s,i)) rfl).1 h).2.1⟩
 ·rcases FI h hk with ⟨h1,_⟩ | ⟨h1,h2,h3⟩ | ⟨h1,h2,h3,h4⟩ | ⟨h1,h2,h3,h4⟩
  ·exact absurd h1 hk
  ·simp only[] at h1 h2 h3
   have:=(lW h2).2.1
   exact .inr ⟨by omega,by omega,by omega,.inr (.inr (.inr h1))⟩
  ·simp only[] at h1 h2 h3 h4
   have:=I3 h2
   exact .inr ⟨by omega,by omega,by omega,by rcases h1 with h1 | h1<;>simp [h1]⟩
  ·simp only[] at h1 h2 h3 h4
   have:=(lW h2).2.1
   exact .inr ⟨by omega,by omega,by omega,.inr (.inl h1)⟩
theorem zY {f:List Tk} {x:Tk} (h:chk f x=0):(elt x).length<=4*wid x+80:=by
 obtain⟨k,s,i⟩:=x;have hd:=z4 i.toNat;rcases qP h with ⟨rfl,rfl⟩ | ⟨h1,_,_,h2⟩
 ·have:=CC s
  show (s.flatMap wrt).length<=4*s.length+80;omega
 ·rcases h2 with rfl | rfl | rfl | rfl
  ·simp [elt];omega
  ·simp [elt];omega
  ·simp [elt];omega
  ·simp [elt];omega
theorem JG {f:List Tk} (h:VL f):(fmt f).length<=4*len f+80*f.length:=by
 suffices ∀ (n:Nat) (f:List Tk),f.length=n->VL f->(fmt f).length<=4*len f+80*f.length from this _ f rfl h
 intro n
 induction n with
 | zero=>intro f hf _;rw[eq_nil_of_length_eq_zero hf];simp [fmt]
 | succ n ih =>
  intro f hf hv;rcases eT f with rfl | ⟨g,y,rfl⟩
  ·simp [fmt]
  ·obtain⟨a,b⟩:=(cU g y).1 hv
   have h1:=ih g (by simp at hf;exact hf) a;have h2:=zY b;rw[JI,JF,e7,gK,length_append,length_append,length_singleton];omega
theorem GB {f:List Tk} (h:vld f=0):(fmt f).length<=50000:=by
 obtain⟨h1,h2,h3⟩:=(eH f).1 h
 have:=JG h1
 omega
theorem FY {f:List Tk} (h:VL f) {i:Nat} {t:Tk} (hi:f[i]?=some t):chk (f.take i) t=0:=by
 have hs:=pA hi;unfold VL at h;rw[hs,show f.take i++t :: f.drop (i+1)=(f.take i++[t])++f.drop (i+1) by simp,qO] at h;by_cases q:dI [] (f.take i++[t])=0
 ·exact ((cU _ _).1 q).2
 ·rw[if_pos q] at h;exact absurd h q
theorem E4 {f:List Tk} {i:Nat} {t:Tk} (hi:f[i]?=some t):fmt (f.drop i)=elt t++fmt (f.drop (i+1)):=by
 have h:i < f.length:=by
  by_cases q:i < f.length
  ·exact q
  ·rw[getElem?_eq_none (by omega)] at hi;cases hi
 rw[drop_eq_getElem_cons h];rw[getElem?_eq_getElem h] at hi;simp only[Option.some.injEq] at hi;rw[hi];simp [fmt]
theorem l32 (f:List Tk) (hl:f.length<=1000) (hv:VL f):∀ (k i:Nat) (b:Bs) (v:AV) (sh:LL),i+k=f.length->BSt v sh b->b.length+(fmt (f.drop i)).length<=500000->len f<=100000 ->
  ∃ v' sh',BSt v' sh' (b++fmt (f.drop i))/\aD G0 mQ (ST [(4,.int .i64 0),(5,v),(12,.bool false),(14,.sl .no 3 (tks f)),(15,.int .i64 f.length),(16,.int .i64 i)] [] sh)=some (.ex 0,ST [(4,.int .i64 0),(5,v'),(12,.bool false),(14,.sl .no 3 (tks f)),(15,.int .i64 f.length),(16,.int .i64 f.length),(17,.bool false)] [] sh')
 | 0,i,b,v,sh,h,hst,hb,hL=>by
  have:i=f.length:=by omega
  subst this;refine⟨v,sh,by simpa [fmt] using hst,?_⟩;have hs1:=hst.scrub;rw[aA (L:=mQ) rfl];simp only[go_sem,hs1,Int.lt_irrefl]
 | k+1,i,b,v,sh,h,hst,hb,hL=>by
  have hi:i < f.length:=by omega
  have h4:(i:Int) < (f.length:Int):=by omega
  have h0:(0:Int)<=(i:Int):=by omega
  have hw:=wI (i:=i) (by omega)
  have hg:f[i]?=some f[i]:=getElem?_eq_getElem hi;generalize f[i]=T at hg;have hr:=bZ hg;have hc:=FY hv hg;have he:=zY hc;rw[E4 hg] at hb ⊢;rw[length_append] at hb;have hwl:wid T<=len f:=by
   have:=pA hg
   rw[this,e7,p9];omega
  obtain⟨kk,s,id⟩:=T;simp only[] at hr;have hs0:=hst.scrub;have hd0:=hst.dem;have ha0:=hst.arg;have fin:∀ v1 sh1,BSt v1 sh1 (b++elt (kk,s,id))->∃ v' sh',BSt v' sh' (b++(elt (kk,s,id)++fmt (f.drop (i+1))))/\aD G0 mQ (ST [(4,.int .i64 0),(5,v1),(12,.bool false),(14,.sl .no 3 (tks f)),(15,.int .i64 f.length),(16,.int .i64 ((i+1:Nat):Int))] [] sh1)=some (.ex 0,ST [(4,.int .i64 0),(5,v'),(12,.bool false),(14,.sl .no 3 (tks f)),(15,.int .i64 f.length),(16,.int .i64 f.length),(17,.bool false)] [] sh'):=by
   intro v1 sh1 q;obtain⟨v',sh',p1,p2⟩:=l32 f hl hv k (i+1) _ v1 sh1 (by omega) q (by rw[length_append];omega) hL;exact⟨v',sh',by rw[<- append_assoc];exact p1,p2⟩
  rcases qP hc with ⟨rfl,rfl⟩ | ⟨h64,i0,i1,hk⟩
  ·have hw2:wid (1,s,0)=s.length:=rfl
   have ee:elt (1,s,0)=s.flatMap wrt:=rfl;obtain⟨v1,sh1,q1,q2⟩:=c51 hst s (by omega) (by omega);obtain⟨v',sh',p1,p2⟩:=fin v1 sh1 q1;refine⟨v',sh',p1,?_⟩;have hs1:=q1.scrub;have hd1:=q1.dem;have h50:=c50 0 (by omega);have ec:((0:Nat):Int)=0:=rfl;rw[ec] at h50;rw[aA (L:=mQ) rfl];simp only[go_sem,h4,h0,hr,hw,h50,q2,hs0,hd0,ha0,hs1,hd1];exact p2
  ·obtain⟨n,rfl⟩:=Int.eq_ofNat_of_zero_le i0
   have h50:=c50 n (by omega);have hd:=z4 n;generalize hdn:Nt.dec n=d at hd h50;rcases hk with rfl | rfl | rfl | rfl
   ·have ee:elt (2,s,(n:Int))=[60]++d++[58]++s++[62]:=by simp [elt,hdn]
    obtain⟨v1,sh1,q1,q2⟩:=FT hst ([60]++d++[58]++s++[62]) (by simp) (by simp;omega);obtain⟨v',sh',p1,p2⟩:=fin v1 sh1 (by rw[ee];exact q1);refine⟨v',sh',p1,?_⟩;have hs1:=q1.scrub;have hd1:=q1.dem;have a1:=mN [60] d (by simp;omega);have a2:=mN ([60]++d) [58] (by simp;omega);have a3:=mN ([60]++d++[58]) s (by simp;omega);have a4:=mN ([60]++d++[58]++s) [62] (by simp;omega);generalize hX1:([60]++d:Bs)=X1 at *;generalize hX2:(X1++[58]:Bs)=X2 at *;generalize hX3:(X2++s:Bs)=X3 at *;generalize hX4:(X3++[62]:Bs)=X4 at *;rw[aA (L:=mQ) rfl];simp only[a1,a2,a3,a4,go_sem,h4,h0,hr,hw,h50,q2,hs0,hd0,ha0,hs1,hd1];exact p2
   ·have ee:elt (3,s,(n:Int))=[60,47]++d++[58]++s++[62]:=by simp [elt,hdn]
    obtain⟨v1,sh1,q1,q2⟩:=FT hst ([60,47]++d++[58]++s++[62]) (by simp) (by simp;omega);obtain⟨v',sh',p1,p2⟩:=fin v1 sh1 (by rw[ee];exact q1);refine⟨v',sh',p1,?_⟩;have hs1:=q1.scrub;have hd1:=q1.dem;have a1:=mN [60,47] d (by simp;omega);have a2:=mN ([60,47]++d) [58] (by simp;omega);have a3:=mN ([60,47]++d++[58]) s (by simp;omega);have a4:=mN ([60,47]++d++[58]++s) [62] (by simp;omega);generalize hX1:([60,47]++d:Bs)=X1 at *;generalize hX2:(X1++[58]:Bs)=X2 at *;generalize hX3:(X2++s:Bs)=X3 at *;generalize hX4:(X3++[62]:Bs)=X4 at *;rw[aA (L:=mQ) rfl];simp only[a1,a2,a3,a4,go_sem,h4,h0,hr,hw,h50,q2,hs0,hd0,ha0,hs1,hd1];exact p2
   ·have ee:elt (4,s,(n:Int))=[60]++d++[58]++s++[47,62]:=by simp [elt,hdn]
    obtain⟨v1,sh1,q1,q2⟩:=FT hst ([60]++d++[58]++s++[47,62]) (by simp) (by simp;omega);obtain⟨v',sh',p1,p2⟩:=fin v1 sh1 (by rw[ee];exact q1);refine⟨v',sh',p1,?_⟩;have hs1:=q1.scrub;have hd1:=q1.dem;have a1:=mN [60] d (by simp;omega);have a2:=mN ([60]++d) [58] (by simp;omega);have a3:=mN ([60]++d++[58]) s (by simp;omega);have a4:=mN ([60]++d++[58]++s) [47,62] (by simp;omega);generalize hX1:([60]++d:Bs)=X1 at *;generalize hX2:(X1++[58]:Bs)=X2 at *;generalize hX3:(X2++s:Bs)=X3 at *;generalize hX4:(X3++[47,62]:Bs)=X4 at *;rw[aA (L:=mQ) rfl];simp only[a1,a2,a3,a4,go_sem,h4,h0,hr,hw,h50,q2,hs0,hd0,ha0,hs1,hd1];exact p2
   ·have ee:elt (5,s,(n:Int))=[123]++s++[125]:=by simp [elt]
    obtain⟨v1,sh1,q1,q2⟩:=FT hst ([123]++s++[125]) (by simp) (by simp;omega);obtain⟨v',sh',p1,p2⟩:=fin v1 sh1 (by rw[ee];exact q1);refine⟨v',sh',p1,?_⟩;have hs1:=q1.scrub;have hd1:=q1.dem;have a1:=mN [123] s (by simp;omega);have a2:=mN ([123]++s) [125] (by simp;omega);generalize hX1:([123]++s:Bs)=X1 at *;generalize hX2:(X1++[125]:Bs)=X2 at *;rw[aA (L:=mQ) rfl];simp only[a1,a2,go_sem,h4,h0,hr,hw,h50,q2,hs0,hd0,ha0,hs1,hd1];exact p2
def JJ (f:List Tk):Bs:=if vld f=0 then fmt f else []
theorem c32 (f:List Tk) (hl:f.length<=1000000) (hb:∀ t∈f,t.2.1.length<=gL):G0 39 [.sl .no 3 (tks f)] []=some (.tup [.str (JJ f),.int .i64 (vld f)],[]):=by
 refine aB F39 rfl rfl rfl ?_;have h46:=c46 f hl hb;unfold JJ;by_cases h:vld f=0
 ·rw[if_pos h,h]
  rw[h] at h46;obtain⟨h1,h2,h3⟩:=(eH f).1 h;have hf:=GB h;obtain⟨v',sh',q1,q2⟩:=l32 f (by omega) h1 f.length 0 [] (.sl .full 1 []) [] (by omega) (.inl ⟨rfl,rfl,rfl⟩) (by rw[drop_zero];simp only[length_nil];omega) (by omega);have ec:((0:Nat):Int)=0:=rfl;rw[drop_zero,nil_append] at q1;rw[ec] at q2;have hs1:=q1.scrub;have hd1:=q1.dem;have hq:=q1.str;have hsd:dE [] sh'=true:=rfl;simp only[F39,go_sem,h46,aG,q2,hs1,hd1,hq,hsd]
 ·rw[if_neg h]
  simp only[F39,go_sem,h46,h]
end Go.Av
