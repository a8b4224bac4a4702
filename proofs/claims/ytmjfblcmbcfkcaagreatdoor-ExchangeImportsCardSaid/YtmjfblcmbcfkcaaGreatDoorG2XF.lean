/- Writing a fragment: the program's and the reference's. Writing a fragment: items, and whole fragments. Reading a notation: the program's reader. Reading a notation: one element more. Reading a notation: a tag more. Reading a notation: the program's parser gives what 'parse' says. -/
import Derived.Test.YtmjfblcmbcfkcaaGreatDoorG2XE
open List
set_option linter.unusedSimpArgs false
set_option linter.unusedVariables false
set_option linter.unusedSectionVars false
set_option maxRecDepth 100000
set_option maxHeartbeats 16000000
namespace Go.Av
open Go.Nt
set_option maxHeartbeats 8000000
def bcl (b:Bs):List AV:=b.map fun c=>.int .u8 (c.toNat:Int)
theorem BP (b:Bs):(bcl b).length=b.length:=by simp [bcl]
theorem S7 (a b:Bs):bcl (a++b)=bcl a++bcl b:=by simp [bcl]
theorem DU:∀ b:Bs,(bcl b).all jF=true
 | []=>rfl
 | c :: b=>by
  show (jF _ && (bcl b).all jF)=true;rw[DU b];rfl
theorem S6:∀ b:Bs,cR (bcl b)=true
 | []=>rfl
 | c :: b=>rfl
theorem CB (b:Bs):(aJ b).flatten=bcl b:=by
 induction b with
 | nil=>rfl
 | cons c b ih =>
  show [AV.int .u8 (c.toNat:Int)]++(aJ b).flatten=AV.int .u8 (c.toNat:Int) :: bcl b;rw[ih];rfl
theorem aP (b:Bs):(aJ b).length=b.length:=by simp [aJ]
def BSt (v:AV) (sh:LL) (b:Bs):Prop:=
 (b=[]/\v=.sl .full 1 []/\sh=[])\/(∃ D:LL,v=.ss D.length 0 b.length 1/\sh=D++[bcl b])
theorem BSt.scrub {v:AV} {sh:LL} {b:Bs} (h:BSt v sh b) (k:List Nat):b9 k v=v:=by
 rcases h with ⟨_,rfl,_⟩ | ⟨D,rfl,_⟩<;>rfl
theorem BSt.dem {v:AV} {sh:LL} {b:Bs} (h:BSt v sh b):aI v=v:=by
 rcases h with ⟨_,rfl,_⟩ | ⟨D,rfl,_⟩<;>rfl
theorem BSt.arg {v:AV} {sh:LL} {b:Bs} (h:BSt v sh b):gR true v=true:=by
 rcases h with ⟨_,rfl,_⟩ | ⟨D,rfl,_⟩<;>rfl
theorem OG {v:AV} {sh:LL} {b:Bs} (h:BSt v sh b) (r:Bs) (hr:r≠[]) (hl:b.length+r.length<=1000000):∃ v' sh',BSt v' sh' (b++r)/\gS 1 1 sh (some (aJ r)) v=some (v',sh'):=by
 have ha:cU 1 (b.length+r.length)=true:=bU (by decide) (by omega);rcases h with ⟨rfl,rfl,rfl⟩ | ⟨D,rfl,rfl⟩
 ·cases r with
  | nil=>exact absurd rfl hr
  | cons c r =>
   refine⟨.ss 0 0 (c :: r).length 1,[bcl (c :: r)],.inr ⟨[],by simp,by simp⟩,?_⟩;have e:aJ (c :: r)=[AV.int .u8 (c.toNat:Int)] :: aJ r:=rfl;have e2:=CB (c :: r);rw[e] at e2 ⊢;simp only[length_nil,length_cons,Nat.zero_add] at ha;rw[jS 1 1 1 (by decide),aP,if_pos ha,e2];rfl
 ·refine⟨.ss (D++[aZ]).length 0 (b++r).length 1,(D++[aZ])++[bcl (b++r)],.inr ⟨D++[aZ],rfl,rfl⟩,?_⟩
  rw[j9 D.length b.length 1 1 (by decide),aP,if_pos ha,gD];simp only[Option.bind_some];rw[if_pos ⟨S6 b,by rw[BP];omega,DU b⟩,CB,sD,S7,length_append,length_append,length_append];rfl
theorem kZ:∀ b:Bs,bY (aJ b)=some b
 | []=>rfl
 | c :: b=>by
  have e:aJ (c :: b)=[AV.int .u8 (c.toNat:Int)] :: aJ b:=rfl;rw[e];simp only[bY,BN,kZ b,Int.toNat_natCast];simp
theorem JE (b:Bs):dD 0 b.length 1 (bcl b)=some (aJ b):=by
 have h1:∀ b:Bs,(bcl b).all (fun x=>cD (aI x))=true:=by
  intro b
  induction b with
  | nil=>rfl
  | cons c b ih =>
   show (cD _ && (bcl b).all _)=true;rw[ih];rfl
 have h2:∀ b:Bs,(bcl b).map aI=bcl b:=by
  intro b
  induction b with
  | nil=>rfl
  | cons c b ih =>
   show aI _ :: (bcl b).map aI=_;rw[ih];rfl
 have h3:∀ b:Bs,dV 1 b.length (bcl b)=aJ b:=by
  intro b
  induction b with
  | nil=>rfl
  | cons c b ih =>
   show (bcl (c :: b)).take 1 :: dV 1 b.length ((bcl (c :: b)).drop 1)=_;have e:(bcl (c :: b)).drop 1=bcl b:=rfl;rw[e,ih];rfl
 unfold dD;have h4:((bcl b).drop 0).take (b.length*1)=bcl b:=by rw[drop_zero];exact take_of_length_le (by rw[BP];omega)
 rw[h4,h2,h3,if_pos ⟨by decide,by rw[BP];omega,h1 b⟩]
theorem BSt.str {v:AV} {sh:LL} {b:Bs} (h:BSt v sh b):J4 sh v=some (.str b):=by
 rcases h with ⟨rfl,rfl,rfl⟩ | ⟨D,rfl,rfl⟩
 ·rfl
 ·rw[S8,gD]
  simp only[Option.bind_some,JE,kZ,Option.map_some]
theorem zZ (c:UInt8):(wrt c).length<=4:=by
 have:=eH (fun c=>decide ((wrt c).length<=4)) (by decide) c
 simpa using this
theorem B1 (s:Bs):(s.flatMap wrt).length<=4*s.length:=by
 induction s with
 | nil=>simp
 | cons c s ih=>rw[flatMap_cons,length_append,length_cons];have:=zZ c;omega
theorem CQ (x y:Int):iE 1 [.int .u8 0] 2 [0,1] [.int .u8 x,.int .u8 y]=some (.sl .full 1 [[.int .u8 x],[.int .u8 y]]):=rfl
theorem zDH (x y z t:Int):iE 1 [.int .u8 0] 4 [0,1,2,3] [.int .u8 x,.int .u8 y,.int .u8 z,.int .u8 t]=some (.sl .full 1 [[.int .u8 x],[.int .u8 y],[.int .u8 z],[.int .u8 t]]):=rfl
theorem l51 (s:Bs) (hs:s.length<=100000):∀ (r p b:Bs) (v:AV) (sh:LL),s=p++r->BSt v sh b->b.length+4*r.length<=1000000 ->
  ∃ v' sh',BSt v' sh' (b++r.flatMap wrt)/\aC G0 qO (ST [(0,v),(1,.str s),(5,.int .i64 p.length)] [] sh)=some (.ex 0,ST [(0,v'),(1,.str s),(5,.int .i64 s.length),(10,.bool false)] [] sh')
 | [],p,b,v,sh,h,hst,hl=>by
  have h:s=p:=by simp [h]
  subst h;refine⟨v,sh,by simpa using hst,?_⟩;have hs1:=hst.scrub;rw[aB (L:=qO) rfl];simp only[go_sem,hs1,Int.lt_irrefl]
 | c :: r,p,b,v,sh,h,hst,hl=>by
  have hll:s.length=p.length+1+r.length:=by simp [h];omega
  have h4:(p.length:Int) < (s.length:Int):=by omega
  have h0:(0:Int)<=(p.length:Int):=by omega
  have h5:s[p.length]?=some c:=by rw[h];simp
  have hw:IntKind.i64.wrap ((p.length:Int)+1)=((p.length+1:Nat):Int):=by rw[w64 (by omega) (by omega)];rfl
  simp only[length_cons] at hl;have hwl:=zZ c;obtain⟨v1,sh1,q1,q2⟩:=OG hst (wrt c) (KF c) (by omega);obtain⟨v',sh',q3,q4⟩:=l51 s hs r (p++[c]) (b++wrt c) v1 sh1 (by simp [h]) q1 (by rw[length_append];omega);refine⟨v',sh',by rw[flatMap_cons,<- append_assoc];exact q3,?_⟩;have e1:((p++[c]).length:Int)=((p.length+1:Nat):Int):=by simp
  rw[e1] at q4;have hs0:=hst.scrub;have hs1:=q1.scrub;have hd0:=hst.dem;have hd1:=q1.dem;have c77:=c77' c;cases hp:gP c with
  | true =>
   rw[hp] at c77;rw[lO c hp] at q2;have q2:gS 1 1 sh (some [[AV.int .u8 (c.toNat:Int)]]) v=some (v1,sh1):=q2;rw[aB (L:=qO) rfl];simp only[go_sem,h4,h0,h5,hw,c77,hs0,hs1,hd0,hd1,uJ,q2];exact q4
  | false =>
   rw[hp] at c77;have e10:(c.toNat:Int)=10↔c=10:=by rw[<- UInt8.toNat_inj];show _↔c.toNat=10;omega
   have e9:(c.toNat:Int)=9↔c=9:=by rw[<- UInt8.toNat_inj];show _↔c.toNat=9;omega
   have e92:(c.toNat:Int)=92↔c=92:=by rw[<- UInt8.toNat_inj];show _↔c.toNat=92;omega
   have e60:(c.toNat:Int)=60↔c=60:=by rw[<- UInt8.toNat_inj];show _↔c.toNat=60;omega
   have e123:(c.toNat:Int)=123↔c=123:=by rw[<- UInt8.toNat_inj];show _↔c.toNat=123;omega
   by_cases k1:c=10
   ·subst k1
    have n1:(((10:UInt8).toNat:Nat):Int)=10:=rfl;have q2:gS 1 1 sh (some [[AV.int .u8 92],[AV.int .u8 110]]) v=some (v1,sh1):=q2;rw[aB (L:=qO) rfl];rw[n1] at c77;simp only[go_sem,h4,h0,h5,hw,n1,c77,hs0,hs1,hd0,hd1,CQ,q2];exact q4
   have k1':¬ (c.toNat:Int)=10:=fun q=>k1 (e10.1 q)
   by_cases k2:c=9
   ·subst k2
    have n1:(((9:UInt8).toNat:Nat):Int)=9:=rfl;have q2:gS 1 1 sh (some [[AV.int .u8 92],[AV.int .u8 116]]) v=some (v1,sh1):=q2;rw[aB (L:=qO) rfl];rw[n1] at c77;simp only[go_sem,h4,h0,h5,hw,n1,c77,hs0,hs1,hd0,hd1,CQ,q2];exact q4
   have k2':¬ (c.toNat:Int)=9:=fun q=>k2 (e9.1 q)
   by_cases k3:c=92\/c=60\/c=123
   ·have ew:wrt c=[92,c]:=by unfold wrt;rw[if_pos k3]
    rw[ew] at q2;have q2:gS 1 1 sh (some [[AV.int .u8 92],[AV.int .u8 (c.toNat:Int)]]) v=some (v1,sh1):=q2;rcases k3 with k3 | k3 | k3
    ·have k3':=e92.2 k3
     rw[k3'] at q2 c77;rw[aB (L:=qO) rfl];simp only[go_sem,h4,h0,h5,hw,c77,k3',hs0,hs1,hd0,hd1,CQ,q2];exact q4
    ·have k3':=e60.2 k3
     rw[k3'] at q2 c77;rw[aB (L:=qO) rfl];simp only[go_sem,h4,h0,h5,hw,c77,k3',hs0,hs1,hd0,hd1,CQ,q2];exact q4
    ·have k3':=e123.2 k3
     rw[k3'] at q2 c77;rw[aB (L:=qO) rfl];simp only[go_sem,h4,h0,h5,hw,c77,k3',hs0,hs1,hd0,hd1,CQ,q2];exact q4
   ·have k31:¬ (c.toNat:Int)=92:=fun q=>k3 (.inl (e92.1 q))
    have k32:¬ (c.toNat:Int)=60:=fun q=>k3 (.inr (.inl (e60.1 q)))
    have k33:¬ (c.toNat:Int)=123:=fun q=>k3 (.inr (.inr (e123.1 q)))
    have h4x:c=13\/ctl c=true:=by
     have:=eH (fun c=>gP c || decide (c=92) || decide (c=60) || decide (c=123) || decide (c=10) || decide (c=9) || decide (c=13) || ctl c) (by decide) c
     simp only[hp,Bool.false_or,Bool.or_eq_true,decide_eq_true_eq] at this;rcases this with (((((h | h) | h) | h) | h) | h) | h
     ·exact absurd (.inl h) k3
     ·exact absurd (.inr (.inl h)) k3
     ·exact absurd (.inr (.inr h)) k3
     ·exact absurd h k1
     ·exact absurd h k2
     ·exact .inl h
     ·exact .inr h
    have ew:=H6 c h4x;rw[ew] at q2;have q2:gS 1 1 sh (some [[AV.int .u8 92],[AV.int .u8 120],[AV.int .u8 ((rA (c.toNat / 16)).toNat:Int)],[AV.int .u8 ((rA (c.toNat % 16)).toNat:Int)]]) v=some (v1,sh1):=q2;have hlt:=c.toNat_lt;have a1:((c.toNat:Int)).fdiv (2 ^ (min 4 8))=((c.toNat / 16:Nat):Int):=by
     have:(2:Int) ^ (min 4 8)=16:=rfl
     rw[this,Int.fdiv_eq_ediv_of_nonneg _ (by omega)];omega
    have a2:IntKind.u8.wrap ((((c.toNat:Int) % 2 ^ 8).toNat &&& ((15:Int) % 2 ^ 8).toNat:Nat):Int)=((c.toNat % 16:Nat):Int):=by
     have e:(2:Int) ^ 8=256:=rfl;have e2:((15:Int) % 256).toNat=2 ^ 4 - 1:=rfl;have e3:((c.toNat:Int) % 256).toNat=c.toNat:=by omega
     rw[e,e2,e3,Nat.and_two_pow_sub_one_eq_mod,wu8 (by omega) (by omega)]
    have b0:(0:Int)<=((c.toNat / 16:Nat):Int):=by omega
    have b1:(0:Int)<=((c.toNat % 16:Nat):Int):=by omega
    have g1:=vV (n:=c.toNat / 16) (by omega);have g2:=vV (n:=c.toNat % 16) (by omega);simp only[RY] at g1 g2;rw[aB (L:=qO) rfl];simp only[go_sem,h4,h0,h5,hw,c77,k1',k2',k31,k32,k33,hs0,hs1,hd0,hd1,a1,a2,b0,b1,g1,g2,zDH,q2];exact q4
theorem c51 {v:AV} {sh:LL} {b:Bs} (h:BSt v sh b) (s:Bs) (hs:s.length<=100000) (hl:b.length+4*s.length<=1000000):∃ v' sh',BSt v' sh' (b++s.flatMap wrt)/\G0 99 [v,.str s] sh=some (v',sh'):=by
 obtain⟨v',sh',q1,q2⟩:=l51 s hs s [] b v sh rfl h hl;have ec:((([]:Bs).length:Nat):Int)=0:=rfl;rw[ec] at q2;refine⟨v',sh',q1,?_⟩;refine aA F99 rfl rfl rfl ?_;have hs0:=h.scrub;have hs1:=q1.scrub;have hd1:=q1.dem;have hd0:=h.dem;simp only[F99,go_sem,hs0,hd0,q2,hs1,hd1];rcases q1 with ⟨_,rfl,rfl⟩ | ⟨D,rfl,rfl⟩
 ·simp only[go_sem]
 ·simp only[go_sem]
end Go.Av
namespace Go.Av
open Go.Nt
set_option maxHeartbeats 8000000
theorem iM (a b:Bs) (h:a.length+b.length<=140737488355328):eU .add (.str a) (.str b)=some (.str (a++b)):=by rw[OA,if_pos h]
theorem vY (n:Nat):(Nt.dec n).length<=3:=by unfold Nt.dec;split;simp;split<;>simp
theorem RU {s:Bs} (h:isC s=true):s.length<=64:=by
 unfold isC at h;simp only[Bool.and_eq_true,decide_eq_true_eq] at h;exact h.1.1.1.1
theorem oX {f:List Tk} {k:Int} {s:Bs} {i:Int} (h:chk f (k,s,i)=0):(k=1/\i=0)\/(s.length<=64/\0<=i/\i<=999/\(k=2\/k=3\/k=4\/k=5)):=by
 by_cases hk:k=1
 ·subst hk;exact .inl ⟨rfl,((fZ (x:=(1,s,i)) rfl).1 h).2.1⟩
 ·rcases BL h hk with ⟨h1,_⟩ | ⟨h1,h2,h3⟩ | ⟨h1,h2,h3,h4⟩ | ⟨h1,h2,h3,h4⟩
  ·exact absurd h1 hk
  ·simp only[] at h1 h2 h3
   have:=(iF h2).2.1
   exact .inr ⟨by omega,by omega,by omega,.inr (.inr (.inr h1))⟩
  ·simp only[] at h1 h2 h3 h4
   have:=RU h2
   exact .inr ⟨by omega,by omega,by omega,by rcases h1 with h1 | h1<;>simp [h1]⟩
  ·simp only[] at h1 h2 h3 h4
   have:=(iF h2).2.1
   exact .inr ⟨by omega,by omega,by omega,.inr (.inl h1)⟩
theorem BC {f:List Tk} {x:Tk} (h:chk f x=0):(elt x).length<=4*wid x+80:=by
 obtain⟨k,s,i⟩:=x;have hd:=vY i.toNat;rcases oX h with ⟨rfl,rfl⟩ | ⟨h1,_,_,h2⟩
 ·have:=B1 s
  show (s.flatMap wrt).length<=4*s.length+80;omega
 ·rcases h2 with rfl | rfl | rfl | rfl
  ·simp [elt];omega
  ·simp [elt];omega
  ·simp [elt];omega
  ·simp [elt];omega
theorem R8 {f:List Tk} (h:VL f):(fmt f).length<=4*len f+80*f.length:=by
 suffices ∀ (n:Nat) (f:List Tk),f.length=n->VL f->(fmt f).length<=4*len f+80*f.length from this _ f rfl h
 intro n
 induction n with
 | zero=>intro f hf _;rw[eq_nil_of_length_eq_zero hf];simp [fmt]
 | succ n ih =>
  intro f hf hv;rcases fQ f with rfl | ⟨g,y,rfl⟩
  ·simp [fmt]
  ·obtain⟨a,b⟩:=(cJ g y).1 hv
   have h1:=ih g (by simp at hf;exact hf) a;have h2:=BC b;rw[pV,pU,eN,gG,length_append,length_append,length_singleton];omega
theorem z9 {f:List Tk} (h:vld f=0):(fmt f).length<=50000:=by
 obtain⟨h1,h2,h3⟩:=(cX f).1 h
 have:=R8 h1
 omega
theorem II {f:List Tk} (h:VL f) {i:Nat} {t:Tk} (hi:f[i]?=some t):chk (f.take i) t=0:=by
 have hs:=rP hi;unfold VL at h;rw[hs,show f.take i++t :: f.drop (i+1)=(f.take i++[t])++f.drop (i+1) by simp,sV] at h;by_cases q:fK [] (f.take i++[t])=0
 ·exact ((cJ _ _).1 q).2
 ·rw[if_pos q] at h;exact absurd h q
theorem DG {f:List Tk} {i:Nat} {t:Tk} (hi:f[i]?=some t):fmt (f.drop i)=elt t++fmt (f.drop (i+1)):=by
 have h:i < f.length:=by
  by_cases q:i < f.length
  ·exact q
  ·rw[getElem?_eq_none (by omega)] at hi;cases hi
 rw[drop_eq_getElem_cons h];rw[getElem?_eq_getElem h] at hi;simp only[Option.some.injEq] at hi;rw[hi];simp [fmt]
theorem l32 (f:List Tk) (hl:f.length<=1000) (hv:VL f):∀ (k i:Nat) (b:Bs) (v:AV) (sh:LL),i+k=f.length->BSt v sh b->b.length+(fmt (f.drop i)).length<=500000->len f<=100000 ->
  ∃ v' sh',BSt v' sh' (b++fmt (f.drop i))/\aC G0 tF (ST [(4,.int .i64 0),(5,v),(12,.bool false),(14,.sl .no 3 (tks f)),(15,.int .i64 f.length),(16,.int .i64 i)] [] sh)=some (.ex 0,ST [(4,.int .i64 0),(5,v'),(12,.bool false),(14,.sl .no 3 (tks f)),(15,.int .i64 f.length),(16,.int .i64 f.length),(17,.bool false)] [] sh')
 | 0,i,b,v,sh,h,hst,hb,hL=>by
  have:i=f.length:=by omega
  subst this;refine⟨v,sh,by simpa [fmt] using hst,?_⟩;have hs1:=hst.scrub;rw[aB (L:=tF) rfl];simp only[go_sem,hs1,Int.lt_irrefl]
 | k+1,i,b,v,sh,h,hst,hb,hL=>by
  have hi:i < f.length:=by omega
  have h4:(i:Int) < (f.length:Int):=by omega
  have h0:(0:Int)<=(i:Int):=by omega
  have hw:=wI (i:=i) (by omega)
  have hg:f[i]?=some f[i]:=getElem?_eq_getElem hi;generalize f[i]=T at hg;have hr:=dH hg;have hc:=II hv hg;have he:=BC hc;rw[DG hg] at hb ⊢;rw[length_append] at hb;have hwl:wid T<=len f:=by
   have:=rP hg
   rw[this,eN,sL];omega
  obtain⟨kk,s,id⟩:=T;simp only[] at hr;have hs0:=hst.scrub;have hd0:=hst.dem;have ha0:=hst.arg;have fin:∀ v1 sh1,BSt v1 sh1 (b++elt (kk,s,id))->∃ v' sh',BSt v' sh' (b++(elt (kk,s,id)++fmt (f.drop (i+1))))/\aC G0 tF (ST [(4,.int .i64 0),(5,v1),(12,.bool false),(14,.sl .no 3 (tks f)),(15,.int .i64 f.length),(16,.int .i64 ((i+1:Nat):Int))] [] sh1)=some (.ex 0,ST [(4,.int .i64 0),(5,v'),(12,.bool false),(14,.sl .no 3 (tks f)),(15,.int .i64 f.length),(16,.int .i64 f.length),(17,.bool false)] [] sh'):=by
   intro v1 sh1 q;obtain⟨v',sh',p1,p2⟩:=l32 f hl hv k (i+1) _ v1 sh1 (by omega) q (by rw[length_append];omega) hL;exact⟨v',sh',by rw[<- append_assoc];exact p1,p2⟩
  rcases oX hc with ⟨rfl,rfl⟩ | ⟨h64,i0,i1,hk⟩
  ·have hw2:wid (1,s,0)=s.length:=rfl
   have ee:elt (1,s,0)=s.flatMap wrt:=rfl;obtain⟨v1,sh1,q1,q2⟩:=c51 hst s (by omega) (by omega);obtain⟨v',sh',p1,p2⟩:=fin v1 sh1 q1;refine⟨v',sh',p1,?_⟩;have hs1:=q1.scrub;have hd1:=q1.dem;have h50:=c50 0 (by omega);have ec:((0:Nat):Int)=0:=rfl;rw[ec] at h50;rw[aB (L:=tF) rfl];simp only[go_sem,h4,h0,hr,hw,h50,q2,hs0,hd0,ha0,hs1,hd1];exact p2
  ·obtain⟨n,rfl⟩:=Int.eq_ofNat_of_zero_le i0
   have h50:=c50 n (by omega);have hd:=vY n;generalize hdn:Nt.dec n=d at hd h50;rcases hk with rfl | rfl | rfl | rfl
   ·have ee:elt (2,s,(n:Int))=[60]++d++[58]++s++[62]:=by simp [elt,hdn]
    obtain⟨v1,sh1,q1,q2⟩:=OG hst ([60]++d++[58]++s++[62]) (by simp) (by simp;omega);obtain⟨v',sh',p1,p2⟩:=fin v1 sh1 (by rw[ee];exact q1);refine⟨v',sh',p1,?_⟩;have hs1:=q1.scrub;have hd1:=q1.dem;have a1:=iM [60] d (by simp;omega);have a2:=iM ([60]++d) [58] (by simp;omega);have a3:=iM ([60]++d++[58]) s (by simp;omega);have a4:=iM ([60]++d++[58]++s) [62] (by simp;omega);generalize hX1:([60]++d:Bs)=X1 at *;generalize hX2:(X1++[58]:Bs)=X2 at *;generalize hX3:(X2++s:Bs)=X3 at *;generalize hX4:(X3++[62]:Bs)=X4 at *;rw[aB (L:=tF) rfl];simp only[a1,a2,a3,a4,go_sem,h4,h0,hr,hw,h50,q2,hs0,hd0,ha0,hs1,hd1];exact p2
   ·have ee:elt (3,s,(n:Int))=[60,47]++d++[58]++s++[62]:=by simp [elt,hdn]
    obtain⟨v1,sh1,q1,q2⟩:=OG hst ([60,47]++d++[58]++s++[62]) (by simp) (by simp;omega);obtain⟨v',sh',p1,p2⟩:=fin v1 sh1 (by rw[ee];exact q1);refine⟨v',sh',p1,?_⟩;have hs1:=q1.scrub;have hd1:=q1.dem;have a1:=iM [60,47] d (by simp;omega);have a2:=iM ([60,47]++d) [58] (by simp;omega);have a3:=iM ([60,47]++d++[58]) s (by simp;omega);have a4:=iM ([60,47]++d++[58]++s) [62] (by simp;omega);generalize hX1:([60,47]++d:Bs)=X1 at *;generalize hX2:(X1++[58]:Bs)=X2 at *;generalize hX3:(X2++s:Bs)=X3 at *;generalize hX4:(X3++[62]:Bs)=X4 at *;rw[aB (L:=tF) rfl];simp only[a1,a2,a3,a4,go_sem,h4,h0,hr,hw,h50,q2,hs0,hd0,ha0,hs1,hd1];exact p2
   ·have ee:elt (4,s,(n:Int))=[60]++d++[58]++s++[47,62]:=by simp [elt,hdn]
    obtain⟨v1,sh1,q1,q2⟩:=OG hst ([60]++d++[58]++s++[47,62]) (by simp) (by simp;omega);obtain⟨v',sh',p1,p2⟩:=fin v1 sh1 (by rw[ee];exact q1);refine⟨v',sh',p1,?_⟩;have hs1:=q1.scrub;have hd1:=q1.dem;have a1:=iM [60] d (by simp;omega);have a2:=iM ([60]++d) [58] (by simp;omega);have a3:=iM ([60]++d++[58]) s (by simp;omega);have a4:=iM ([60]++d++[58]++s) [47,62] (by simp;omega);generalize hX1:([60]++d:Bs)=X1 at *;generalize hX2:(X1++[58]:Bs)=X2 at *;generalize hX3:(X2++s:Bs)=X3 at *;generalize hX4:(X3++[47,62]:Bs)=X4 at *;rw[aB (L:=tF) rfl];simp only[a1,a2,a3,a4,go_sem,h4,h0,hr,hw,h50,q2,hs0,hd0,ha0,hs1,hd1];exact p2
   ·have ee:elt (5,s,(n:Int))=[123]++s++[125]:=by simp [elt]
    obtain⟨v1,sh1,q1,q2⟩:=OG hst ([123]++s++[125]) (by simp) (by simp;omega);obtain⟨v',sh',p1,p2⟩:=fin v1 sh1 (by rw[ee];exact q1);refine⟨v',sh',p1,?_⟩;have hs1:=q1.scrub;have hd1:=q1.dem;have a1:=iM [123] s (by simp;omega);have a2:=iM ([123]++s) [125] (by simp;omega);generalize hX1:([123]++s:Bs)=X1 at *;generalize hX2:(X1++[125]:Bs)=X2 at *;rw[aB (L:=tF) rfl];simp only[a1,a2,go_sem,h4,h0,hr,hw,h50,q2,hs0,hd0,ha0,hs1,hd1];exact p2
def NI (f:List Tk):Bs:=if vld f=0 then fmt f else []
theorem c32 (f:List Tk) (hl:f.length<=1000000) (hb:∀ t∈f,t.2.1.length<=gK):G0 66 [.sl .no 3 (tks f)] []=some (.tup [.str (NI f),.int .i64 (vld f)],[]):=by
 refine aA F66 rfl rfl rfl ?_;have h46:=c46 f hl hb;unfold NI;by_cases h:vld f=0
 ·rw[if_pos h,h]
  rw[h] at h46;obtain⟨h1,h2,h3⟩:=(cX f).1 h;have hf:=z9 h;obtain⟨v',sh',q1,q2⟩:=l32 f (by omega) h1 f.length 0 [] (.sl .full 1 []) [] (by omega) (.inl ⟨rfl,rfl,rfl⟩) (by rw[drop_zero];simp only[length_nil];omega) (by omega);have ec:((0:Nat):Int)=0:=rfl;rw[drop_zero,nil_append] at q1;rw[ec] at q2;have hs1:=q1.scrub;have hd1:=q1.dem;have hq:=q1.str;have hsd:eP [] sh'=true:=rfl;simp only[F66,go_sem,h46,aD,q2,hs1,hd1,hq,hsd]
 ·rw[if_neg h]
  simp only[F66,go_sem,h46,h]
theorem l52 (k0:Int) (id:Int) (s:Bs) (hs:s.length<=100000):∀ (r p out:Bs),s=p++r->out.length+4*r.length<=1000000 ->
  aC G0 BX (ST [(1,.loc 1 0),(3,.str out),(4,.int .i64 p.length),(6,.int .i64 k0),(7,.bool true)] [(1,some [.int .i64 k0,.str s,.int .i64 id])] [])=some (.ex 1,ST [(1,.loc 1 0),(3,.str (out++r.flatMap wrt)),(4,.int .i64 s.length),(6,.int .i64 k0),(7,.bool true),(13,.bool false)] [(1,some [.int .i64 k0,.str s,.int .i64 id])] [])
 | [],p,out,h,hl=>by
  have h:s=p:=by simp [h]
  subst h;rw[aB (L:=BX) rfl];simp only[go_sem,Int.lt_irrefl,flatMap_nil,append_nil]
 | c :: r,p,out,h,hl=>by
  have hll:s.length=p.length+1+r.length:=by simp [h];omega
  have h4:(p.length:Int) < (s.length:Int):=by omega
  have h0:(0:Int)<=(p.length:Int):=by omega
  have h5:s[p.length]?=some c:=by rw[h];simp
  have hw:IntKind.i64.wrap ((p.length:Int)+1)=((p.length+1:Nat):Int):=by rw[w64 (by omega) (by omega)];rfl
  simp only[length_cons] at hl;have hwl:=zZ c;have c78:G0 130 [.int .u8 (c.toNat:Int)] []=some (.str (wrt c),[]):=c78 c;have ih:=l52 k0 id s hs r (p++[c]) (out++wrt c) (by simp [h]) (by rw[length_append];omega);have e1:((p++[c]).length:Int)=((p.length+1:Nat):Int):=by simp
  rw[e1] at ih;have hc:out.length+(wrt c).length<=140737488355328:=by omega
  rw[flatMap_cons,<- append_assoc];rw[aB (L:=BX) rfl];simp only[go_sem,h4,h0,h5,hw,c78,hc];exact ih
theorem c52 {f:List Tk} {k:Int} {s:Bs} {i:Int} (h:chk f (k,s,i)=0) (hs:s.length<=100000):G0 100 [.agg [.int .i64 k,.str s,.int .i64 i]] []=some (.str (elt (k,s,i)),[]):=by
 refine aA FW rfl rfl rfl ?_;rcases oX h with ⟨rfl,rfl⟩ | ⟨h64,i0,i1,hk⟩
 ·have ee:elt (1,s,0)=s.flatMap wrt:=rfl
  have x:=l52 1 0 s hs s [] [] rfl (by simp;omega);have ec:((([]:Bs).length:Nat):Int)=0:=rfl;rw[ec,nil_append] at x;rw[ee];simp only[FW,go_sem,x]
 ·obtain⟨n,rfl⟩:=Int.eq_ofNat_of_zero_le i0
  have h79:=c79 n (by omega);have hd:=vY n;generalize hdn:Nt.dec n=d at hd h79;rcases hk with rfl | rfl | rfl | rfl
  ·have ee:elt (2,s,(n:Int))=[60]++d++[58]++s++[62]:=by simp [elt,hdn]
   have a1:=iM [60] d (by simp;omega);have a2:=iM ([60]++d) [58] (by simp;omega);have a3:=iM ([60]++d++[58]) s (by simp;omega);have a4:=iM ([60]++d++[58]++s) [62] (by simp;omega);rw[ee];generalize hX1:([60]++d:Bs)=X1 at *;generalize hX2:(X1++[58]:Bs)=X2 at *;generalize hX3:(X2++s:Bs)=X3 at *;generalize hX4:(X3++[62]:Bs)=X4 at *;simp only[FW,a1,a2,a3,a4,go_sem,h79]
  ·have ee:elt (3,s,(n:Int))=[60,47]++d++[58]++s++[62]:=by simp [elt,hdn]
   have a1:=iM [60,47] d (by simp;omega);have a2:=iM ([60,47]++d) [58] (by simp;omega);have a3:=iM ([60,47]++d++[58]) s (by simp;omega);have a4:=iM ([60,47]++d++[58]++s) [62] (by simp;omega);rw[ee];generalize hX1:([60,47]++d:Bs)=X1 at *;generalize hX2:(X1++[58]:Bs)=X2 at *;generalize hX3:(X2++s:Bs)=X3 at *;generalize hX4:(X3++[62]:Bs)=X4 at *;simp only[FW,a1,a2,a3,a4,go_sem,h79]
  ·have ee:elt (4,s,(n:Int))=[60]++d++[58]++s++[47,62]:=by simp [elt,hdn]
   have a1:=iM [60] d (by simp;omega);have a2:=iM ([60]++d) [58] (by simp;omega);have a3:=iM ([60]++d++[58]) s (by simp;omega);have a4:=iM ([60]++d++[58]++s) [47,62] (by simp;omega);rw[ee];generalize hX1:([60]++d:Bs)=X1 at *;generalize hX2:(X1++[58]:Bs)=X2 at *;generalize hX3:(X2++s:Bs)=X3 at *;generalize hX4:(X3++[47,62]:Bs)=X4 at *;simp only[FW,a1,a2,a3,a4,go_sem,h79]
  ·have ee:elt (5,s,(n:Int))=[123]++s++[125]:=by simp [elt]
   have a1:=iM [123] s (by simp;omega);have a2:=iM ([123]++s) [125] (by simp;omega);rw[ee];generalize hX1:([123]++s:Bs)=X1 at *;generalize hX2:(X1++[125]:Bs)=X2 at *;simp only[FW,a1,a2,go_sem]
theorem l33 (f:List Tk) (hl:f.length<=1000) (hv:VL f) (hL:len f<=20000):∀ (k i:Nat) (b:Bs),i+k=f.length->b.length+(fmt (f.drop i)).length<=500000 ->
  aC G0 IL (ST [(0,.sl .no 3 (tks f)),(4,.int .i64 0),(5,.str b),(10,.bool false),(13,.int .i64 f.length),(14,.int .i64 i)] [] [])=some (.ex 0,ST [(0,.sl .no 3 (tks f)),(4,.int .i64 0),(5,.str (b++fmt (f.drop i))),(10,.bool false),(13,.int .i64 f.length),(14,.int .i64 f.length),(15,.bool false)] [] [])
 | 0,i,b,h,hb=>by
  have:i=f.length:=by omega
  subst this;have e:fmt (f.drop f.length)=[]:=by simp [fmt]
  rw[e,append_nil];rw[aB (L:=IL) rfl];simp only[go_sem,Int.lt_irrefl]
 | k+1,i,b,h,hb=>by
  have hi:i < f.length:=by omega
  have h4:(i:Int) < (f.length:Int):=by omega
  have h0:(0:Int)<=(i:Int):=by omega
  have hw:=wI (i:=i) (by omega)
  have hg:f[i]?=some f[i]:=getElem?_eq_getElem hi;generalize f[i]=T at hg;have hr:=dH hg;have hc:=II hv hg;have he:=BC hc;rw[DG hg] at hb ⊢;rw[length_append] at hb;have hwl:wid T<=len f:=by
   have:=rP hg
   rw[this,eN,sL];omega
  obtain⟨kk,s,id⟩:=T;simp only[] at hr;have hsl:s.length<=100000:=by
   rcases oX hc with ⟨rfl,rfl⟩ | ⟨h64,_⟩
   ·have:wid (1,s,0)=s.length:=rfl
    omega
   ·omega
  have h52:=c52 hc hsl;have ih:=l33 f hl hv hL k (i+1) (b++elt (kk,s,id)) (by omega) (by rw[length_append];omega);have hcc:b.length+(elt (kk,s,id)).length<=140737488355328:=by omega
  rw[<- append_assoc];generalize elt (kk,s,id)=E at *;rw[aB (L:=IL) rfl];simp only[go_sem,h4,h0,hr,hw,h52,hcc];exact ih
theorem c33 (f:List Tk) (hl:f.length<=1000000) (hb:∀ t∈f,t.2.1.length<=gK):G0 70 [.sl .no 3 (tks f)] []=some (.tup [.str (NI f),.int .i64 (vld f)],[]):=by
 refine aA F70 rfl rfl rfl ?_;have h21:=c21 f hl hb;unfold NI;by_cases h:vld f=0
 ·rw[if_pos h,h]
  rw[h] at h21;obtain⟨h1,h2,h3⟩:=(cX f).1 h;have hf:=z9 h;have x:=l33 f (by omega) h1 (by omega) f.length 0 [] (by omega) (by rw[drop_zero];simp only[length_nil];omega);have ec:((0:Nat):Int)=0:=rfl;rw[drop_zero,nil_append,ec] at x;simp only[F70,go_sem,h21,aD,x]
 ·rw[if_neg h]
  simp only[F70,go_sem,h21,h]
end Go.Av
namespace Go.Av
open Go.Nt
set_option maxHeartbeats 8000000
def md (b:Bool):Own:=if b then .own else .full
def mdn (b:Bool):Own:=if b then .no else .full
theorem G2 (b:Bool):md b≠.no:=by cases b<;>decide
theorem bP (b:Bool) (z:Nat) (l:LL):ldV (.sl (md b) z l)=some (.sl (mdn b) z l):=by cases b<;>rfl
theorem dA (b:Bool) (z:Nat) (l:LL):aI (.sl (md b) z l)=.sl (mdn b) z l:=by cases b<;>rfl
theorem cE (b:Bool) (z:Nat) (l:LL):aI (.sl (mdn b) z l)=.sl (mdn b) z l:=by cases b<;>rfl
def tmr (m:Tm):List (List AV):=m.map fun p=>[.int .i64 p.1,.agg (tkR p.2)]
def Rr (b1:Bool) (fl:List Tk) (b2:Bool) (tx:Bs) (n:Nat):List AV:=[.sl (md b1) 3 (tks fl),.sl (md b2) 1 (aJ tx),.int .i64 (n:Int),.mp 0]
theorem EV (i:Int):∀ m:Tm,lkA [0] (.int .i64 i) (tmr m)=some ((lE m i).map fun y=>.agg (tkR y))
 | []=>rfl
 | (k,y) :: r=>by
  have ih:=EV i r;have e:tmr ((k,y) :: r)=[.int .i64 k,.agg (tkR y)] :: tmr r:=rfl;rw[e];simp only[lkA,nL,eqL,if_true,Option.map_some,Bool.and_true,lE];by_cases h:i=k
  ·subst h;simp
  ·have:(i == k)=false:=by simpa using h
   simp only[this,h,if_false,ih]
theorem MK (i:Int) (x:Tk):∀ m:Tm,muA [0] (.int .i64 i) (.agg (tkR x)) (tmr m)=some (tmr (qB m i x))
 | []=>rfl
 | (k,y) :: r=>by
  have ih:=MK i x r;have e:tmr ((k,y) :: r)=[.int .i64 k,.agg (tkR y)] :: tmr r:=rfl;rw[e];simp only[muA,nL,eqL,if_true,Option.map_some,Bool.and_true,qB];by_cases h:i=k
  ·subst h;simp [tmr]
  ·have:(i == k)=false:=by simpa using h
   simp only[this,h,if_false,ih,Option.map_some];rfl
theorem HF (Mo:List AV) (b1 b2:Bool) (fl:List Tk) (tx:Bs) (x y:AV):MZ (sh:=[Mo,[.sl (md b1) 3 (tks fl),.sl (md b2) 1 (aJ tx),x,y]]) 1 0 [.sl (md b1) 3 (tks fl),.sl (md b2) 1 (aJ tx),x,y] (.sl (md b1) 3 (tks fl))=some (.sl (md b1) 3 (tks fl),[Mo,[.sl (mdn b1) 3 (tks fl),.sl (md b2) 1 (aJ tx),x,y]]):=by
 cases b1<;>rfl
theorem UJ (Mo:List AV) (b1 b2:Bool) (fl:List Tk) (tx:Bs) (x y:AV):MZ (sh:=[Mo,[.sl (md b1) 3 (tks fl),.sl (md b2) 1 (aJ tx),x,y]]) 1 1 [.sl (md b1) 3 (tks fl),.sl (md b2) 1 (aJ tx),x,y] (.sl (md b2) 1 (aJ tx))=some (.sl (md b2) 1 (aJ tx),[Mo,[.sl (md b1) 3 (tks fl),.sl (mdn b2) 1 (aJ tx),x,y]]):=by
 cases b2<;>rfl
theorem zFZ (b2:Bool) (tx r:Bs) (h:tx.length+r.length<=1000000):jL true 1 1 (.sl (md b2) 1 (aJ tx)) (.str r)=some (.sl .own 1 (aJ (tx++r))):=by
 unfold jL;have e:jW true 1 (.str r)=some (aJ r):=rfl;simp only[e,Option.bind_some];rw[if_pos]
 ·simp [aJ]
 ·refine⟨.inl trivial,G2 b2,by decide,?_,?_⟩
  ·rw[aP,aP];omega
  ·rw[aP,aP];omega
theorem IG (b1:Bool) (fl:List Tk) (x:Tk) (h:fl.length<=1000000):jL false 3 32 (.sl (md b1) 3 (tks fl)) (.sl .full 3 [[.int .i64 x.1,.str x.2.1,.int .i64 x.2.2]])=some (.sl .own 3 (tks (fl++[x]))):=by
 have ha:cU 32 (fl.length+1)=true:=bU (by decide) (by omega);rw[dP (md b1) .full (G2 b1) 3 32 (by decide),aD,length_singleton,if_pos ha,<- pH];rfl
theorem cA (rows l1 l2:LL) (m1 m2:Own) (n:Int):eY false 2 [[.mapv rows],[.sl m1 3 l1,.sl m2 1 l2,.int .i64 n,.mp 0]]=true:=rfl
theorem c55 (rows:LL) (b1 b2:Bool) (fl:List Tk) (tx:Bs) (n:Nat) (h1:fl.length<=1000000):∃ b1' b2',G0 124 [.ptr 1 0] [[.mapv rows],Rr b1 fl b2 tx n]=some (.tup [],[[.mapv rows],Rr b1' (fin fl tx) b2' [] n]):=by
 by_cases h:tx=[]
 ·subst h
  refine⟨b1,b2,?_⟩;rw[mZ];refine aA OQ rfl rfl rfl ?_;have hz:aJ []=[]:=rfl;simp only[OQ,go_sem,Rr,bP,hz,Int.lt_irrefl,cA]
 ·have hp:(0:Int) < (tx.length:Int):=by
   cases tx with
   | nil=>exact absurd rfl h
   | cons c r=>simp only[length_cons];omega
  refine⟨true,false,?_⟩;have ef:fin fl tx=fl++[(1,tx,0)]:=by unfold fin;rw[if_neg h]
  rw[ef];have ha:=IG b1 fl (1,tx,0) h1;have hb:=kZ tx;have hz:aJ []=[]:=rfl;have e1:md true=.own:=rfl;have e2:md false=.full:=rfl;refine aA OQ rfl rfl rfl ?_;simp only[OQ,go_sem,Rr,bP,aP,hp,HF,hb,ha,dA,cE,e1,e2,hz,cA]
end Go.Av
namespace Go.Av
open Go.Nt
theorem vF {tx:Bs} (h:tx≠[]):(0:Int) < (tx.length:Int):=by
 cases tx with
 | nil=>exact absurd rfl h
 | cons c r=>simp only[length_cons];omega
theorem c54t (rows:LL) (b1 b2:Bool) (fl:List Tk) (tx:Bs) (n:Nat) (c:UInt8) (h1:fl.length<=2000) (h2:tx.length<=2000) (h3:n<=2000) :
  (512 < fl.length+1\/1024 < n+1->G0 123 [.ptr 1 0,.agg [.int .i64 1,.str [c],.int .i64 0]] [[.mapv rows],Rr b1 fl b2 tx n]=some (.int .i64 3,[[.mapv rows],Rr b1 fl b2 tx n])) /\
  (¬ (512 < fl.length+1\/1024 < n+1)->G0 123 [.ptr 1 0,.agg [.int .i64 1,.str [c],.int .i64 0]] [[.mapv rows],Rr b1 fl b2 tx n]=some (.int .i64 0,[[.mapv rows],Rr b1 fl true (tx++[c]) (n+1)])):=by
 have w1:IntKind.i64.wrap ((fl.length:Int)+1)=(fl.length:Int)+1:=w64 (by omega) (by omega);have w2:IntKind.i64.wrap ((n:Int)+1)=((n+1:Nat):Int):=by rw[w64 (by omega) (by omega)];rfl
 have ha:=zFZ b2 tx [c] (by simp;omega);have e1:md true=.own:=rfl;by_cases ht:tx=[]
 ·subst ht
  have hz:aJ []=[]:=rfl;rw[hz] at ha;constructor
  ·intro h
   refine aA dQ rfl rfl rfl ?_;by_cases g1:(512:Int) < (fl.length:Int)+1
   ·simp only[dQ,go_sem,Rr,bP,aD,hz,Int.lt_irrefl,w1,g1,cA]
   ·have g2:(1024:Int) < ((n+1:Nat):Int):=by omega
    simp only[dQ,go_sem,Rr,bP,aD,hz,Int.lt_irrefl,w1,w2,g1,g2,cA]
  ·intro h
   have g1:¬ (512:Int) < (fl.length:Int)+1:=by omega
   have g2:¬ (1024:Int) < ((n+1:Nat):Int):=by omega
   refine aA dQ rfl rfl rfl ?_;have hld:=UJ [.mapv rows] b1 b2 fl [];rw[hz] at hld;simp only[dQ,go_sem,Rr,bP,aD,hz,Int.lt_irrefl,w1,w2,g1,g2,cA,hld,ha,dA,cE,e1]
 ·have hp:=vF ht
  have hp0:¬ (tx.length:Int)=0:=by omega
  constructor
  ·intro h
   refine aA dQ rfl rfl rfl ?_;by_cases g1:(512:Int) < (fl.length:Int)+1
   ·simp only[dQ,go_sem,Rr,bP,aD,aP,hp,hp0,w1,g1,cA]
   ·have g2:(1024:Int) < ((n+1:Nat):Int):=by omega
    simp only[dQ,go_sem,Rr,bP,aD,aP,hp,hp0,w1,w2,g1,g2,cA]
  ·intro h
   have g1:¬ (512:Int) < (fl.length:Int)+1:=by omega
   have g2:¬ (1024:Int) < ((n+1:Nat):Int):=by omega
   refine aA dQ rfl rfl rfl ?_;simp only[dQ,go_sem,Rr,bP,aD,aP,hp,hp0,w1,w2,g1,g2,cA,UJ,ha,dA,cE,e1]
theorem c54s (rows:LL) (b1 b2:Bool) (fl:List Tk) (tx:Bs) (n:Nat) (s:Bs) (h1:fl.length<=2000) (h2:tx.length<=2000) (h3:n<=2000) :
  (512 < (fin fl tx).length+1\/1024 < n+1->G0 123 [.ptr 1 0,.agg [.int .i64 5,.str s,.int .i64 0]] [[.mapv rows],Rr b1 fl b2 tx n]=some (.int .i64 3,[[.mapv rows],Rr b1 fl b2 tx n])) /\
  (¬ (512 < (fin fl tx).length+1\/1024 < n+1)->∃ b2',G0 123 [.ptr 1 0,.agg [.int .i64 5,.str s,.int .i64 0]] [[.mapv rows],Rr b1 fl b2 tx n]=some (.int .i64 0,[[.mapv rows],Rr true (fin fl tx++[(5,s,0)]) b2' [] (n+1)])):=by
 have w1:IntKind.i64.wrap ((fl.length:Int)+1)=(fl.length:Int)+1:=w64 (by omega) (by omega);have w1b:IntKind.i64.wrap ((fl.length:Int)+1+1)=(fl.length:Int)+1+1:=w64 (by omega) (by omega);have w2:IntKind.i64.wrap ((n:Int)+1)=((n+1:Nat):Int):=by rw[w64 (by omega) (by omega)];rfl
 have e1:md true=.own:=rfl;have hfl:=pW fl tx;obtain⟨c1,c2,h55⟩:=c55 rows b1 b2 fl tx (n+1) (by omega);have hz:aJ []=[]:=rfl;have hfin:(fin fl tx).length<=1000000:=by rw[hfl];split<;>omega
 have ha:=IG c1 (fin fl tx) (5,s,0) hfin;simp only[Rr,hz] at h55;have hld:=HF [.mapv rows] c1 c2 (fin fl tx) [];rw[hz] at hld;by_cases ht:tx=[]
 ·subst ht
  simp only[length_nil,Nat.lt_irrefl,if_false,Nat.add_zero] at hfl;rw[hfl];rw[hz] at h55;constructor
  ·intro h
   refine aA dQ rfl rfl rfl ?_;by_cases g1:(512:Int) < (fl.length:Int)+1
   ·simp only[dQ,go_sem,Rr,bP,aD,hz,Int.lt_irrefl,w1,g1,cA]
   ·have g2:(1024:Int) < ((n+1:Nat):Int):=by omega
    simp only[dQ,go_sem,Rr,bP,aD,hz,Int.lt_irrefl,w1,w2,g1,g2,cA]
  ·intro h
   have g1:¬ (512:Int) < (fl.length:Int)+1:=by omega
   have g2:¬ (1024:Int) < ((n+1:Nat):Int):=by omega
   refine⟨c2,?_⟩;refine aA dQ rfl rfl rfl ?_;simp only[dQ,go_sem,Rr,bP,aD,hz,Int.lt_irrefl,w1,w2,g1,g2,cA,h55,hld,ha,dA,cE,e1]
 ·have hp:=vF ht
  have hp':0 < tx.length:=by omega
  rw[if_pos hp'] at hfl;rw[hfl];constructor
  ·intro h
   refine aA dQ rfl rfl rfl ?_;by_cases g1:(512:Int) < (fl.length:Int)+1+1
   ·simp only[dQ,go_sem,Rr,bP,aD,aP,hp,w1,w1b,g1,cA]
   ·have g2:(1024:Int) < ((n+1:Nat):Int):=by omega
    simp only[dQ,go_sem,Rr,bP,aD,aP,hp,w1,w1b,w2,g1,g2,cA]
  ·intro h
   have g1:¬ (512:Int) < (fl.length:Int)+1+1:=by omega
   have g2:¬ (1024:Int) < ((n+1:Nat):Int):=by omega
   refine⟨c2,?_⟩;refine aA dQ rfl rfl rfl ?_;simp only[dQ,go_sem,Rr,bP,aD,aP,hz,hp,w1,w1b,w2,g1,g2,cA,h55,hld,ha,dA,cE,e1]
end Go.Av
namespace Go.Av
open Go.Nt
theorem Q4 {m:Tm} {i:Int} (h:lE m i=none):lkA [0] (.int .i64 i) (tmr m)=some none:=by rw[EV,h];rfl
theorem HB {m:Tm} {i:Int} {y:Tk} (h:lE m i=some y):lkA [0] (.int .i64 i) (tmr m)=some (some (.agg [.int .i64 y.1,.str y.2.1,.int .i64 y.2.2])):=by rw[EV,h];rfl
theorem mu_x (m:Tm) (k:Int) (s:Bs) (i:Int):muA [0] (.int .i64 i) (.agg [.int .i64 k,.str s,.int .i64 i]) (tmr m)=some (tmr (qB m i (k,s,i))):=MK i (k,s,i) m
theorem qD (agg:Bool) (z:List AV) (v:AV):lkR true agg z (some v)=some (.tup [v,.bool true]):=rfl
theorem u5 (z:List AV):lkR true true z none=some (.tup [.agg z,.bool false]):=rfl
theorem GA (a b:Int) (s:Bs):([AV.int .i64 a,AV.str s,AV.int .i64 b]:List AV).all bC=true:=rfl
theorem gL (rows:LL) (q:List AV):kS [[.mapv rows],q] 0=some rows:=rfl
theorem c54b (m:Tm) (b1 b2:Bool) (fl:List Tk) (tx:Bs) (n:Nat) (k:Int) (s:Bs) (i:Int) (hk:k=2\/k=3\/k=4) (hy:∀ y,lE m i=some y->y.1=2->y.2.1.length<=1000000) (hb:B3 m (k,s,i)=true):G0 123 [.ptr 1 0,.agg [.int .i64 k,.str s,.int .i64 i]] [[.mapv (tmr m)],Rr b1 fl b2 tx n]=some (.int .i64 7,[[.mapv (tmr m)],Rr b1 fl b2 tx n]):=by
 unfold B3 at hb;cases hm:lE m i with
 | none=>rw[hm] at hb;cases hb
 | some y =>
  rw[hm] at hb;have hl:=HB hm;have h84:=fun h=>c84 y.2.1 (hy y hm h)
  refine aA dQ rfl rfl rfl ?_;rcases hk with rfl | rfl | rfl
  ·simp only[dQ,go_sem,Rr,bP,hl,gL,qD,cA]
  ·by_cases h2:y.1=2
   ·have h84:=h84 h2
    simp only[h2,decide_true,Bool.true_and,Bool.not_eq_true',beq_eq_false_iff_ne,ne_eq] at hb;have e:(aT y.2.1 != s)=true:=by simp [hb]
    simp only[dQ,go_sem,Rr,bP,hl,gL,qD,h2,h84,e,cA]
   ·simp only[dQ,go_sem,Rr,bP,hl,gL,qD,h2,cA]
  ·simp only[dQ,go_sem,Rr,bP,hl,gL,qD,cA]
theorem c54n (m:Tm) (b1 b2:Bool) (fl:List Tk) (tx:Bs) (n:Nat) (k:Int) (s:Bs) (i:Int) (hk:k=2\/k=3\/k=4) (hm:lE m i=none) (h1:fl.length<=2000) (h2:tx.length<=2000) (h3:n<=2000) :
  (512 < (fin fl tx).length+1\/1024 < n+1->G0 123 [.ptr 1 0,.agg [.int .i64 k,.str s,.int .i64 i]] [[.mapv (tmr m)],Rr b1 fl b2 tx n]=some (.int .i64 3,[[.mapv (tmr m)],Rr b1 fl b2 tx n])) /\
  (¬ (512 < (fin fl tx).length+1\/1024 < n+1)->∃ b2',G0 123 [.ptr 1 0,.agg [.int .i64 k,.str s,.int .i64 i]] [[.mapv (tmr m)],Rr b1 fl b2 tx n]=some (.int .i64 0,[[.mapv (tmr (qB m i (k,s,i)))],Rr true (fin fl tx++[(k,s,i)]) b2' [] (n+1)])):=by
 have hl:=Q4 hm;have w1:IntKind.i64.wrap ((fl.length:Int)+1)=(fl.length:Int)+1:=w64 (by omega) (by omega);have w1b:IntKind.i64.wrap ((fl.length:Int)+1+1)=(fl.length:Int)+1+1:=w64 (by omega) (by omega);have w2:IntKind.i64.wrap ((n:Int)+1)=((n+1:Nat):Int):=by rw[w64 (by omega) (by omega)];rfl
 have e1:md true=.own:=rfl;have hfl:=pW fl tx;obtain⟨c1,c2,h55⟩:=c55 (tmr (qB m i (k,s,i))) b1 b2 fl tx (n+1) (by omega);have hz:aJ []=[]:=rfl;have hfin:(fin fl tx).length<=1000000:=by rw[hfl];split<;>omega
 have ha:=IG c1 (fin fl tx) (k,s,i) hfin;simp only[Rr,hz] at h55;have hld:=HF [.mapv (tmr (qB m i (k,s,i)))] c1 c2 (fin fl tx) [];rw[hz] at hld;have hmu:=mu_x m k s i;by_cases ht:tx=[]
 ·subst ht
  simp only[length_nil,Nat.lt_irrefl,if_false,Nat.add_zero] at hfl;rw[hfl];rw[hz] at h55;constructor
  ·intro h
   by_cases g1:(512:Int) < (fl.length:Int)+1
   ·rcases hk with rfl | rfl | rfl
    all_goals
     refine aA dQ rfl rfl rfl ?_;simp only[dQ,go_sem,Rr,bP,aD,hz,Int.lt_irrefl,w1,g1,cA,gL,qD,u5,hl]
   ·have g2:(1024:Int) < ((n+1:Nat):Int):=by omega
    rcases hk with rfl | rfl | rfl
    all_goals
     refine aA dQ rfl rfl rfl ?_;simp only[dQ,go_sem,Rr,bP,aD,hz,Int.lt_irrefl,w1,w2,g1,g2,cA,gL,qD,u5,hl]
  ·intro h
   have g1:¬ (512:Int) < (fl.length:Int)+1:=by omega
   have g2:¬ (1024:Int) < ((n+1:Nat):Int):=by omega
   refine⟨c2,?_⟩;rcases hk with rfl | rfl | rfl
   all_goals
    refine aA dQ rfl rfl rfl ?_;simp only[dQ,go_sem,Rr,bP,aD,hz,Int.lt_irrefl,w1,w2,g1,g2,cA,gL,qD,u5,GA,hmu,h55,hld,ha,dA,cE,e1,hl]
 ·have hp:=vF ht
  have hp':0 < tx.length:=by omega
  rw[if_pos hp'] at hfl;rw[hfl];constructor
  ·intro h
   by_cases g1:(512:Int) < (fl.length:Int)+1+1
   ·rcases hk with rfl | rfl | rfl
    all_goals
     refine aA dQ rfl rfl rfl ?_;simp only[dQ,go_sem,Rr,bP,aD,aP,hp,w1,w1b,g1,cA,gL,qD,u5,hl]
   ·have g2:(1024:Int) < ((n+1:Nat):Int):=by omega
    rcases hk with rfl | rfl | rfl
    all_goals
     refine aA dQ rfl rfl rfl ?_;simp only[dQ,go_sem,Rr,bP,aD,aP,hp,w1,w1b,w2,g1,g2,cA,gL,qD,u5,hl]
  ·intro h
   have g1:¬ (512:Int) < (fl.length:Int)+1+1:=by omega
   have g2:¬ (1024:Int) < ((n+1:Nat):Int):=by omega
   refine⟨c2,?_⟩;rcases hk with rfl | rfl | rfl
   all_goals
    refine aA dQ rfl rfl rfl ?_;simp only[dQ,go_sem,Rr,bP,aD,aP,hz,hp,w1,w1b,w2,g1,g2,cA,gL,qD,u5,GA,hmu,h55,hld,ha,dA,cE,e1,hl]
theorem c54c (m:Tm) (b1 b2:Bool) (fl:List Tk) (tx:Bs) (n:Nat) (k:Int) (s:Bs) (i:Int) (hk:k=3) (y:Tk) (hm:lE m i=some y) (hy1:y.1=2) (hy2:aT y.2.1=s) (hyl:y.2.1.length<=1000000) (h1:fl.length<=2000) (h2:tx.length<=2000) (h3:n<=2000) :
  (512 < (fin fl tx).length+1\/1024 < n+1->G0 123 [.ptr 1 0,.agg [.int .i64 k,.str s,.int .i64 i]] [[.mapv (tmr m)],Rr b1 fl b2 tx n]=some (.int .i64 3,[[.mapv (tmr m)],Rr b1 fl b2 tx n])) /\
  (¬ (512 < (fin fl tx).length+1\/1024 < n+1)->∃ b2',G0 123 [.ptr 1 0,.agg [.int .i64 k,.str s,.int .i64 i]] [[.mapv (tmr m)],Rr b1 fl b2 tx n]=some (.int .i64 0,[[.mapv (tmr (qB m i (k,s,i)))],Rr true (fin fl tx++[(k,s,i)]) b2' [] (n+1)])):=by
 subst hk;have hl:=HB hm;have h84:=c84 y.2.1 hyl;rw[hy2] at h84;have e:(s != s)=false:=by simp
 have w1:IntKind.i64.wrap ((fl.length:Int)+1)=(fl.length:Int)+1:=w64 (by omega) (by omega);have w1b:IntKind.i64.wrap ((fl.length:Int)+1+1)=(fl.length:Int)+1+1:=w64 (by omega) (by omega);have w2:IntKind.i64.wrap ((n:Int)+1)=((n+1:Nat):Int):=by rw[w64 (by omega) (by omega)];rfl
 have e1:md true=.own:=rfl;have hfl:=pW fl tx;obtain⟨c1,c2,h55⟩:=c55 (tmr (qB m i (3,s,i))) b1 b2 fl tx (n+1) (by omega);have hz:aJ []=[]:=rfl;have hfin:(fin fl tx).length<=1000000:=by rw[hfl];split<;>omega
 have ha:=IG c1 (fin fl tx) (3,s,i) hfin;simp only[Rr,hz] at h55;have hld:=HF [.mapv (tmr (qB m i (3,s,i)))] c1 c2 (fin fl tx) [];rw[hz] at hld;have hmu:=mu_x m 3 s i;by_cases ht:tx=[]
 ·subst ht
  simp only[length_nil,Nat.lt_irrefl,if_false,Nat.add_zero] at hfl;rw[hfl];rw[hz] at h55;constructor
  ·intro h
   by_cases g1:(512:Int) < (fl.length:Int)+1
   ·refine aA dQ rfl rfl rfl ?_
    simp only[dQ,go_sem,Rr,bP,aD,hz,Int.lt_irrefl,w1,g1,cA,gL,qD,u5,hl,hy1,h84,e]
   ·have g2:(1024:Int) < ((n+1:Nat):Int):=by omega
    refine aA dQ rfl rfl rfl ?_;simp only[dQ,go_sem,Rr,bP,aD,hz,Int.lt_irrefl,w1,w2,g1,g2,cA,gL,qD,u5,hl,hy1,h84,e]
  ·intro h
   have g1:¬ (512:Int) < (fl.length:Int)+1:=by omega
   have g2:¬ (1024:Int) < ((n+1:Nat):Int):=by omega
   refine⟨c2,?_⟩;refine aA dQ rfl rfl rfl ?_;simp only[dQ,go_sem,Rr,bP,aD,hz,Int.lt_irrefl,w1,w2,g1,g2,cA,gL,qD,u5,GA,hmu,h55,hld,ha,dA,cE,e1,hl,hy1,h84,e]
 ·have hp:=vF ht
  have hp':0 < tx.length:=by omega
  rw[if_pos hp'] at hfl;rw[hfl];constructor
  ·intro h
   by_cases g1:(512:Int) < (fl.length:Int)+1+1
   ·refine aA dQ rfl rfl rfl ?_
    simp only[dQ,go_sem,Rr,bP,aD,aP,hp,w1,w1b,g1,cA,gL,qD,u5,hl,hy1,h84,e]
   ·have g2:(1024:Int) < ((n+1:Nat):Int):=by omega
    refine aA dQ rfl rfl rfl ?_;simp only[dQ,go_sem,Rr,bP,aD,aP,hp,w1,w1b,w2,g1,g2,cA,gL,qD,u5,hl,hy1,h84,e]
  ·intro h
   have g1:¬ (512:Int) < (fl.length:Int)+1+1:=by omega
   have g2:¬ (1024:Int) < ((n+1:Nat):Int):=by omega
   refine⟨c2,?_⟩;refine aA dQ rfl rfl rfl ?_;simp only[dQ,go_sem,Rr,bP,aD,aP,hz,hp,w1,w1b,w2,g1,g2,cA,gL,qD,u5,GA,hmu,h55,hld,ha,dA,cE,e1,hl,hy1,h84,e]
end Go.Av
namespace Go.Av
open Go.Nt
theorem VJ {f:List Tk} {y:Tk} (h:y∈tg f):y∈f:=(mem_filter.1 h).1
theorem KO (fl:List Tk) (tx:Bs):tg (fin fl tx)=tg fl:=by
 unfold fin;split
 ·rfl
 ·rw[fP,wC (rN rfl),append_nil]
theorem FD (fl:List Tk) (tx:Bs):tx.length<=len (fin fl tx):=by
 unfold fin;split
 ·rename_i h;subst h;simp
 ·rw[eN,gG]
  have:wid (1,tx,0)=tx.length:=rfl
  omega
theorem NN (fl:List Tk) (tx:Bs):fl.length<=(fin fl tx).length:=by rw[pW];omega
structure RI (fl:List Tk) (tx:Bs) (m:Tm) (n:Nat):Prop where
 vl:VL (fin fl tx)
 tm:TM (fin fl tx) m
 lk:iO fl≠1
 nn:n=len (fin fl tx)
 l1:(fin fl tx).length<=512
 l2:n<=1024
theorem QH {fl:List Tk} {tx:Bs} {m:Tm} {n:Nat} (h:RI fl tx m n) (i:Int):∀ y,lE m i=some y->y.1=2->y.2.1.length<=1000000:=fun y hy h2=>BU h.vl y (VJ (h.tm.yes i y hy).1) h2
theorem QG {fl:List Tk} {tx:Bs} {m:Tm} {n:Nat} (h:RI fl tx m n) (c:UInt8) (hl:¬ (512 < fl.length+1\/1024 < n+1)):RI fl (tx++[c]) m (n+1)/\Nt.put (fin fl tx) (1,[c],0)=fin fl (tx++[c]):=by
 have hp:Nt.put (fin fl tx) (1,[c],0)=fin fl (tx++[c]):=H4 h.lk (by simp);obtain⟨p1,p2,_⟩:=AP (x:=(1,[c],0)) h.vl (vA c) (by simp) h.nn;rw[hp] at p1 p2;refine⟨⟨p1,TV h.tm (by rw[KO,KO]),h.lk,p2.symm,?_,by omega⟩,hp⟩;rw[pW]
 have:0 < (tx++[c]).length:=by simp
 rw[if_pos this];omega
theorem GD {fl:List Tk} {tx:Bs} {m m':Tm} {n:Nat} (h:RI fl tx m n) {x:Tk} (hw:wfX x) (hx:x.1≠1) (hc:chk (fin fl tx) x=0) (hm:TM (fin fl tx++[x]) m') (hl:¬ (512 < (fin fl tx).length+1\/1024 < n+1)):RI (fin fl tx++[x]) [] m' (n+1):=by
 obtain⟨p1,p2,_⟩:=AP (x:=x) h.vl hw (fun q=>q.2 hc) h.nn;rw[rV hx] at p1 p2;refine⟨by rw[mZ];exact p1,by rw[mZ];exact hm,by rw[fB];exact hx,by rw[mZ];exact p2.symm,by rw[mZ];simp;omega,by omega⟩
theorem SL {f:List Tk} {k:Int} {s:Bs} {i:Int} (hw:wfX (k,s,i)) (hk:k=2\/k=3\/k=4):chk f (k,s,i)=mM f (k,s,i):=by
 rcases hw with ⟨h1,_⟩ | ⟨h1,_⟩ | ⟨h1,h2,h3,h4⟩ | ⟨h1,h2,h3,h4⟩
 ·simp only[] at h1;omega
 ·simp only[] at h1;omega
 ·simp only[] at h1 h2 h3 h4
  rcases h1 with rfl | rfl<;>simp [chk,h2,h3,h4]
 ·simp only[] at h1 h2 h3 h4
  subst h1;simp [chk,h2,h3,h4]
theorem RS {k:Int} {s:Bs} {i:Int} (hk:k=2\/k=3\/k=4):bD (k,s,i)=true:=by rcases hk with rfl | rfl | rfl<;>rfl
theorem c54 {fl:List Tk} {tx:Bs} {m:Tm} {n:Nat} (h:RI fl tx m n) (b1 b2:Bool) {x:Tk} (hw:wfX x) :
  (x.1≠1/\chk (fin fl tx) x≠0->G0 123 [.ptr 1 0,.agg [.int .i64 x.1,.str x.2.1,.int .i64 x.2.2]] [[.mapv (tmr m)],Rr b1 fl b2 tx n]=some (.int .i64 (chk (fin fl tx) x),[[.mapv (tmr m)],Rr b1 fl b2 tx n])) /\
  (¬ (x.1≠1/\chk (fin fl tx) x≠0)->512 < (Nt.put (fin fl tx) x).length\/1024 < n+1->G0 123 [.ptr 1 0,.agg [.int .i64 x.1,.str x.2.1,.int .i64 x.2.2]] [[.mapv (tmr m)],Rr b1 fl b2 tx n]=some (.int .i64 3,[[.mapv (tmr m)],Rr b1 fl b2 tx n])) /\
  (¬ (x.1≠1/\chk (fin fl tx) x≠0)->¬ (512 < (Nt.put (fin fl tx) x).length\/1024 < n+1)->∃ m' b1' b2' fl' tx',RI fl' tx' m' (n+1)/\fin fl' tx'=Nt.put (fin fl tx) x/\G0 123 [.ptr 1 0,.agg [.int .i64 x.1,.str x.2.1,.int .i64 x.2.2]] [[.mapv (tmr m)],Rr b1 fl b2 tx n]=some (.int .i64 0,[[.mapv (tmr m')],Rr b1' fl' b2' tx' (n+1)])):=by
 have hl1:=h.l1;have hl2:=h.l2;have hfl:=NN fl tx;have htx:=FD fl tx;have hnn:=h.nn;obtain⟨k,s,i⟩:=x;simp only[];by_cases k1:k=1
 ·subst k1
  have hc:∃ c,s=[c]/\i=0:=by
   rcases hw with ⟨_,⟨c,hc⟩,hi⟩ | ⟨h1,_⟩ | ⟨h1,_⟩ | ⟨h1,_⟩
   ·exact⟨c,hc,hi⟩
   ·simp at h1
   ·simp at h1
   ·simp at h1
  obtain⟨c,rfl,rfl⟩:=hc;obtain⟨q1,q2⟩:=c54t (tmr m) b1 b2 fl tx n c (by omega) (by omega) (by omega);have hpl:(Nt.put (fin fl tx) (1,[c],0)).length=fl.length+1:=DJ h.lk (by simp);rw[hpl];refine⟨fun q=>absurd rfl q.1,fun _ q=>q1 q,fun _ q=>?_⟩;obtain⟨r1,r2⟩:=QG h c q;exact⟨m,b1,true,fl,tx++[c],r1,r2.symm,q2 q⟩
 ·have hp:Nt.put (fin fl tx) (k,s,i)=fin fl tx++[(k,s,i)]:=rV k1
  have hpl:(fin fl tx++[(k,s,i)]).length=(fin fl tx).length+1:=by simp
  rw[hp,hpl];by_cases k5:k=5
  ·subst k5
   have hi:i=0/\cW s=true:=by
    rcases hw with ⟨h1,_⟩ | ⟨_,h1,h2⟩ | ⟨h1,_⟩ | ⟨h1,_⟩
    ·simp at h1
    ·exact⟨h2,h1⟩
    ·simp at h1
    ·simp at h1
   obtain⟨rfl,hnm⟩:=hi;have hc:chk (fin fl tx) (5,s,0)=0:=by simp [chk,hnm]
   obtain⟨q1,q2⟩:=c54s (tmr m) b1 b2 fl tx n s (by omega) (by omega) (by omega);refine⟨fun q=>absurd hc q.2,fun _ q=>q1 q,fun _ q=>?_⟩;obtain⟨b2',q3⟩:=q2 q;have ht:TM (fin fl tx++[(5,s,0)]) m:=TV h.tm (by rw[fP,wC (by rfl),append_nil]);exact⟨m,true,b2',_,[],GD h hw (by simp) hc ht q,mZ _,q3⟩
  ·have hk:k=2\/k=3\/k=4:=by
    rcases hw with ⟨h1,_⟩ | ⟨h1,_⟩ | ⟨h1,_⟩ | ⟨h1,_⟩
    ·exact absurd h1 k1
    ·exact absurd h1 k5
    ·simp only[] at h1;omega
    ·simp only[] at h1;omega
   have hce:chk (fin fl tx) (k,s,i)=mM (fin fl tx) (k,s,i):=SL hw hk;have hte:=VD h.tm (k,s,i);rw[hce];have hy:=QH h i;cases hb:B3 m (k,s,i) with
   | true =>
    rw[hb] at hte;simp only[if_true] at hte;rw[hte];have q:=c54b m b1 b2 fl tx n k s i hk hy hb;exact⟨fun _=>q,fun q=>absurd ⟨k1,by decide⟩ q,fun q=>absurd ⟨k1,by decide⟩ q⟩
   | false =>
    rw[hb] at hte;simp only[Bool.false_eq_true,if_false] at hte;rw[hte];have hq:(512 < (fin fl tx).length+1\/1024 < n+1->G0 123 [.ptr 1 0,.agg [.int .i64 k,.str s,.int .i64 i]] [[.mapv (tmr m)],Rr b1 fl b2 tx n]=some (.int .i64 3,[[.mapv (tmr m)],Rr b1 fl b2 tx n])) /\
     (¬ (512 < (fin fl tx).length+1\/1024 < n+1)->∃ b2',G0 123 [.ptr 1 0,.agg [.int .i64 k,.str s,.int .i64 i]] [[.mapv (tmr m)],Rr b1 fl b2 tx n]=some (.int .i64 0,[[.mapv (tmr (qB m i (k,s,i)))],Rr true (fin fl tx++[(k,s,i)]) b2' [] (n+1)])):=by
     unfold B3 at hb;cases hm:lE m i with
     | none=>exact c54n m b1 b2 fl tx n k s i hk hm (by omega) (by omega) (by omega)
     | some y =>
      rw[hm] at hb;simp only[Bool.not_eq_false',Bool.and_eq_true,decide_eq_true_eq,beq_iff_eq] at hb;exact c54c m b1 b2 fl tx n k s i hb.1.1 y hm hb.1.2 hb.2 (hy y hm hb.1.2) (by omega) (by omega) (by omega)
    refine⟨fun q=>absurd rfl q.2,fun _ q=>hq.1 q,fun _ q=>?_⟩;obtain⟨b2',q3⟩:=hq.2 q;exact⟨_,true,b2',_,[],GD h hw k1 (by rw[hce];exact hte) (VG h.tm (RS hk) hte) q,mZ _,q3⟩
theorem l35 (s:Bs) (hs:s.length<=100000):∀ (k a:Nat) (fl:List Tk) (tx:Bs) (m:Tm) (n:Nat) (b1 b2:Bool),s.length<=a+k->a<=s.length->RI fl tx m n ->
  ((prS (fin fl tx) a n (s.drop a)).2.2=0->∃ m' b1' b2' fl' tx' n',fin fl' tx'=(prS (fin fl tx) a n (s.drop a)).1/\fl'.length<=512/\aC G0 qQ (ST [(0,.str s),(3,.int .i64 a),(5,.ptr 1 0)] [] [[.mapv (tmr m)],Rr b1 fl b2 tx n])=some (.ex 0,ST [(0,.str s),(3,.int .i64 s.length),(5,.ptr 1 0),(15,.bool false)] [] [[.mapv (tmr m')],Rr b1' fl' b2' tx' n'])) /\
  ((prS (fin fl tx) a n (s.drop a)).2.2≠0->∃ l' m' sh',aC G0 qQ (ST [(0,.str s),(3,.int .i64 a),(5,.ptr 1 0)] [] [[.mapv (tmr m)],Rr b1 fl b2 tx n])=some (.ret,ST l' m' sh')/\aE .any l' 2=.sl .full 3 []/\aE .any l' 3=.int .i64 ((prS (fin fl tx) a n (s.drop a)).2.1:Nat)/\aE .any l' 4=.int .i64 (prS (fin fl tx) a n (s.drop a)).2.2)
 | k,a,fl,tx,m,n,b1,b2,h1,h2,hR=>by
  by_cases he:a=s.length
  ·subst he
   rw[drop_length,rX];refine⟨fun _=>⟨m,b1,b2,fl,tx,n,rfl,by have:=hR.l1;have:=NN fl tx;omega,?_⟩,fun q=>absurd rfl q⟩;rw[aB (L:=qQ) rfl];simp only[go_sem,Int.lt_irrefl]
  cases k with
  | zero=>omega
  | succ k =>
  have h4:(a:Int) < (s.length:Int):=by omega
  have hsl:bO true 0 (.str s) (some (.int .i64 (a:Int))) none=some (.str (s.drop a)):=by
   rw[kK _ _ _ _ (by omega) (by omega),Int.toNat_natCast]
  obtain⟨c,r,hcr⟩:∃ c r,s.drop a=c :: r:=by
   cases hd:s.drop a with
   | nil=>have:=congrArg List.length hd;rw[length_drop] at this;simp at this;omega
   | cons c r=>exact⟨c,r,rfl⟩
  have hrl:r.length+1=s.length - a:=by
   have:=congrArg List.length hcr;rw[length_drop] at this;simp at this;omega
  obtain⟨kk,t,id,nn,b,y1,y2,y3⟩:=c53 c r (by omega);rw[<- hcr] at y1 y2 y3;cases hrd:rd (s.drop a) with
  | none =>
   rw[hrd] at y2;have y2:b=false:=y2;subst y2;rw[rW (by rw[hcr];simp) hrd];refine⟨fun q=>(by simp at q),fun _=>?_⟩;refine Exists.intro ?_ (Exists.intro ?_ (Exists.intro ?_ (And.intro ?_ ?_)))
   rotate_left 3
   ·rw[aB (L:=qQ) rfl]
    simp only[go_sem,h4,hsl,y1];rfl
   ·exact⟨rfl,rfl,rfl⟩
  | some p =>
   obtain⟨x,mm⟩:=p;rw[hrd] at y2;have y2:b=true:=y2;subst y2;obtain⟨e1,e2⟩:=y3 x mm hrd;subst e2;obtain⟨hw,_,_,_⟩:=kL hrd;obtain⟨m1,m2,_,_⟩:=pN hrd;rw[length_drop] at m2;obtain⟨z1,z2,z3⟩:=c54 hR b1 b2 hw;rw[iZ hrd];subst e1;simp only[] at z1 z2 z3;by_cases hc:kk≠1/\chk (fin fl tx) (kk,t,id)≠0
   ·rw[if_pos hc]
    have z1:=z1 hc;have hne:=hc.2;refine⟨fun q=>absurd q hc.2,fun _=>?_⟩;generalize chk (fin fl tx) (kk,t,id)=e at z1 hne;refine Exists.intro ?_ (Exists.intro ?_ (Exists.intro ?_ (And.intro ?_ ?_)))
    rotate_left 3
    ·rw[aB (L:=qQ) rfl]
     simp only[go_sem,h4,hsl,y1,z1,hne];rfl
    ·exact⟨rfl,rfl,rfl⟩
   ·rw[if_neg hc]
    by_cases hl:512 < (Nt.put (fin fl tx) (kk,t,id)).length\/1024 < n+1
    ·rw[if_pos hl]
     have z2:=z2 hc hl;refine⟨fun q=>(by simp at q),fun _=>?_⟩;refine Exists.intro ?_ (Exists.intro ?_ (Exists.intro ?_ (And.intro ?_ ?_)))
     rotate_left 3
     ·rw[aB (L:=qQ) rfl]
      simp only[go_sem,h4,hsl,y1,z2];rfl
     ·exact⟨rfl,rfl,rfl⟩
    ·rw[if_neg hl]
     obtain⟨m',b1',b2',fl',tx',hR',hf',z3⟩:=z3 hc hl;have hw1:IntKind.i64.wrap ((a:Int)+(mm:Int))=((a+mm:Nat):Int):=by rw[w64 (by omega) (by omega)];rfl
     have ih:=l35 s hs k (a+mm) fl' tx' m' (n+1) b1' b2' (by omega) (by omega) hR';rw[drop_drop,<- hf'];have step:aC G0 qQ (ST [(0,.str s),(3,.int .i64 a),(5,.ptr 1 0)] [] [[.mapv (tmr m)],Rr b1 fl b2 tx n])=aC G0 qQ (ST [(0,.str s),(3,.int .i64 ((a+mm:Nat):Int)),(5,.ptr 1 0)] [] [[.mapv (tmr m')],Rr b1' fl' b2' tx' (n+1)]):=by
      conv=>lhs;rw[aB (L:=qQ) rfl]
      simp only[go_sem,h4,hsl,y1,z3,hw1]
     rw[step];exact ih
theorem c35 (s:Bs) (hs:s.length<=100000):G0 94 [.str s] []=some (.tup [.sl .no 3 (tks (aM s).1),.int .i64 ((aM s).2.1:Nat),.int .i64 (aM s).2.2],[]):=by
 have hR:RI [] [] [] 0:=⟨rfl,VF,by simp [iO],rfl,by simp [fin],by omega⟩
 obtain⟨x1,x2⟩:=l35 s hs s.length 0 [] [] [] 0 false false (by omega) (by omega) hR;rw[drop_zero] at x1 x2;have e0:prS (fin [] []) 0 0 s=aM s:=rfl;rw[e0] at x1 x2;have ec:((0:Nat):Int)=0:=rfl;have eR:Rr false [] false [] 0=[.sl .full 3 [],.sl .full 1 [],.int .i64 0,.mp 0]:=rfl;have em:tmr []=[]:=rfl;rw[ec,eR,em] at x1 x2;refine aA F94 rfl rfl rfl ?_;by_cases h:(aM s).2.2=0
 ·obtain⟨m',b1',b2',fl',tx',n',y1,y2,y3⟩:=x1 h
  obtain⟨c1,c2,y4⟩:=c55 (tmr m') b1' b2' fl' tx' n' (by omega);rw[y1] at y4;have hb:(aM s).2.1=0:=by
   obtain⟨g,b,e⟩:∃ g b,aM s=(g,b,0):=⟨(aM s).1,(aM s).2.1,by rw[<- h]⟩
   have:=(eV e).2.2
   rw[e];exact this
  rw[h,hb];have hz:aJ []=[]:=rfl;simp only[Rr,hz] at y4;have hsd:∀ q,eP [] q=true:=fun _=>rfl
  simp only[F94,go_sem,y3,Rr,y4,bP,hsd]
 ·obtain⟨l',m',sh',y1,y2,y3,y4⟩:=x2 h
  have hg:(aM s).1=[]:=by
   obtain⟨g,b,e,he⟩:∃ g b e,aM s=(g,b,e):=⟨(aM s).1,(aM s).2.1,(aM s).2.2,rfl⟩
   have:=(yY he (by rw[he] at h;exact h)).2.1
   rw[he];exact this
  rw[hg];have hsd:eP [] sh'=true:=rfl;simp only[F94,go_sem,y1,y2,y3,y4,hsd,eB]
end Go.Av
