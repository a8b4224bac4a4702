/- A part of the frame. No conditions. -/
import Derived.Test.YthnlilndompbaaaGreatDoorT1Ev12ato12d
import Derived.Tactics
open List
set_option linter.all false
set_option maxRecDepth 100000
set_option maxHeartbeats 16000000
theorem ve:type_of% @Option.bind_none:=λ_=>rfl
theorem wn:type_of% @Option.map_none:=λ_=>rfl
theorem ab2:type_of% @Option.isSome_some:=rfl
def ab3:=@and_self
theorem ab6:type_of% @Option.isSome_none:=rfl
def ac1:=@Array.getElem?_eq_getElem
def ac4:=@Option.map_map
def ad5:=@List.map_congr_left
def ag3:=@List.ext_getElem?
def ah5:=@Go.Oper.wp_mono
theorem aj5:type_of% @Option.getD_some:=rfl
def am7:=@List.getElem?_set
def am8:=@List.map_set
def ao3:=@List.map_take
namespace Go.Av
variable{C ba:AR}{J bj:TypeId}{M bi:Operand}{O:IntKind}{R j n q v:Nat}{X:AS}{Y:FuncId}{bd c:LL}{bh f:List AV}{bq:List AR}{bv fx h:AV}{cf:ML}{ct cu:AOper}{d:Bool}{dj:Option Nat}{dy m':MV}{eh io:Option AV}{gw:Array TypeId}
variable [Gtab]
open Go.RowKit
section
variable{P:Program}{E:Env}{g g':Gh}{σ σ' σ1:AS}{a:Act}{w w':World}{o:Oper}{ao:AOper}{Q:Exit->Act->World->Prop}
def cB(h:d5 ao=true):ao.ml=.none/\ao.dem=none:=by
 unfold d5 at h;simpa using h
def ZJ{G:aP}(h:cM G ao σ=some σ')(hg:fY σ.fr ao.guard=some true):
  ∃ v m,kf G (ao.dst.getD 0) ao.ml ao.k (ao.args.map (ev σ.fr)) (rdm σ ao.ml)=some (v,m)/\σ'=put (dT (wrm σ m ao.ml) ao.dem) ao.dst v:=by
 unfold cM at h;rw[hg] at h;simp only at h
 split at h
 ·rename_i v m a
  cases h;exact⟨v,m,a,rfl⟩
 ·cases h
def vL{ce:Type}{xs:Array ce}(h:xs.size=2):∃ x y,xs=#[x,y]:=by
 obtain⟨l⟩:=xs
 match l,h with
 | [x,y],_=>exact⟨x,y,rfl⟩
def oM(h:cZ (some bv) j=some q):∃ k n,bv=.int k n:=by
 cases bv<;>simp [cZ] at h
 exact⟨_,_,rfl⟩
def jJ(h:aZ d j bv eh io=some fx):(∀ u,eh=some u->∃ k n,u=.int k n)/\(∀ u,io=some u->∃ k n,u=.int k n):=by
 unfold aZ at h
 split at h
 all_goals first | (cases h;done) | skip
 all_goals
  split at h
  ·rename_i a b
   exact⟨λu e=>oM (by rw[<- e];exact a),λu e=>oM (by rw[<- e];exact b)⟩
  ·cases h
def tU(a:rB j c bv eh h=some fx):(∀ u,eh=some u->∃ k n,u=.int k n)/\∃ k n,h=.int k n:=by
 unfold rB at a
 split at a
 ·split at a
  ·rename_i b d _
   exact⟨λu e=>oM (by rw[<- e];exact b),oM d⟩
  ·cases a
 ·exact⟨(jJ a).1,(jJ a).2 _ rfl⟩
def KB{e:Nat}(f:∀ v R n e,bv≠.ss v R n e):aZ false j bv eh io≠some (.ss v R n e):=by
 intro h
 cases bv with
 | ss a b c d=>exact f _ _ _ _ rfl
 | sl m q l =>
  simp only[aZ] at h
  split at h
  ·split at h
   ·cases h
   ·cases h
  ·cases h
 | _=>cases h
def ZT(B:Sim E g σ a w)(hd:∀ d,o.dst=some d->d<E.nt)(v:o.op=.slice J M none (some bi) none)(F:okR M C=true)(s:okR bi ba=true)(D:P.underlying J=some (.slice bj))(G:aY P bj=some j)(i:D5 j σ.sh (ev σ.fr C) (ev σ.fr ba)=some (h,bd)):
  o.wp P a w (aS E (put { σ with sh:=bd } o.dst h)) Q:=by
 unfold D5 at i;obtain⟨O,e,i⟩:=jj.1 i;have base:=D3 (Q:=Q) B hd v F s D G (eh:=none) trivial (tU e).2 e
 split at i
 ·rename_i so k x
  obtain⟨cells,r,y⟩:=jf.1 i;simp only[jg] at y;obtain⟨rfl,rfl⟩:=y;have l:bX cells=true:=by
   unfold rB at e
   split at e
   ·split at e
    ·rename_i H off n I _ L N cells' _ _ p
     split at e
     ·rename_i f
      split at e
      ·simp only[jc,AV.ss.injEq] at e
       obtain⟨rfl,_⟩:=e;rw[r] at p;cases p;exact f.2.2.2.2
      ·cases e
     ·cases e
    ·cases e
   ·rename_i u
    exfalso;exact KB (λa b c d bj=>u _ _ _ _ bj) e
  refine ah5 ?_ base
  rintro K w' ⟨g',q⟩
  refine⟨g',?_⟩;cases A:o.dst with
  | none =>
   rw[A] at q;exact q.cutObj (m:=k*x) r l
  | some d =>
   rw[A] at q;exact Sim.cutObj (σ:=put σ (some d) (.ss so 0 k x)) (m:=k*x) q r l
 ·simp only[jc,jg] at i
  obtain⟨rfl,rfl⟩:=i;exact base
def y9:wrm X (rdm X cf) cf=X:=by
 cases cf with
 | none=>rfl
 | sh=>rfl
 | lo s =>
  show { X with lo:=upd X.lo s (X.lo s) }=X
  have:upd X.lo s (X.lo s)=X.lo:=by funext t;unfold upd;split<;>simp_all
  rw[this]
def Br(c:Sim E g σ a w)(hd:∀ d,o.dst=some d->d<E.nt)(b:o.op=.call { callee:=.builtin .len,args:=#[M],argTypes:=gw })
  (i:okR M C=true)(hts:gw[0]?=some J)(f:P.underlying J=some (.slice bj))(h:ev σ.fr C=.ss j q n v):
  o.wp P a w (aS E (put σ o.dst (.int .i64 n))) Q:=by
 obtain⟨_,k,e,_⟩:=c.rd i h;refine aI c hd (I:=.int .i64 n) ?_ rfl rfl;simp [execOp,b,resolve,invoke,builtin,e,Builtin.len_,hts,ke f,goInt]
def Px(f:Sim E g σ a w)(hd:∀ d,o.dst=some d->d<E.nt)(e:o.op=.indexAddr J M bi)
  (s:okR M C=true)(u:okR bi ba=true)(r:P.underlying J=some (.slice bj))(x:aY P bj=some j){D:Int}(m:ev σ.fr C=.ss q v n j)(p:ev σ.fr ba=.int O D)(l:0<=D)(c:D<n):
  o.wp P a w (aS E (put σ o.dst (.ptr q (v+D.toNat*j)))) Q:=by
 obtain⟨y,hi,b⟩:=dZ x;obtain⟨h,A,i,B,_⟩:=f.rd s m;have k:=f.rdNat u p;refine aI f hd (I:=.pointer (some ⟨(cx E g σ w).β q,v+D.toNat*j,none⟩)) ?_ rfl ⟨h,rfl⟩;simp [execOp,e,i,k,Instr.indexAt,asIntOf,ke r,l,c,sizeOf,typeInfo,hi,b,dJ]
def HP(h:mF c n=some bd):c[n]?=some [.mapv bd]:=by
 unfold mF at h
 split at h
 ·rename_i m a;cases h;exact a
 ·cases h
set_option maxHeartbeats 2000000 in
def K3{G:aP}(hG:fK P G)(L:Sim E g σ a w)(hd:∀ d,o.dst=some d->d<E.nt)(ap:ao.dst=o.dst)(p:okK P o ao=true)
  (b:kf G (ao.dst.getD 0) ao.ml ao.k (ao.args.map (ev σ.fr)) (rdm σ ao.ml)=some (bv,dy)):
  o.wp P a w (aS E (put (dT (wrm σ dy ao.ml) ao.dem) o.dst bv)) Q:=by
 rw[ap] at b;unfold okK at p
 split at p
 ·
  rename_i x v B;simp only[ir] at p;obtain⟨r,H,F⟩:=iZ p.1;obtain⟨q,m⟩:=cB p.2;rw[B,H,q] at b;simp only[ju,kh,kf,kf0,jc,jg] at b;obtain⟨rfl,rfl⟩:=b;rw[q,m];exact S5 L hd (.inl v) F
 ·rename_i x v B
  simp only[ir] at p;obtain⟨r,H,F⟩:=iZ p.1;obtain⟨q,m⟩:=cB p.2;rw[B,H,q] at b;simp only[ju,kh,kf,kf0,jc,jg] at b;obtain⟨rfl,rfl⟩:=b;rw[q,m];exact S5 L hd (.inr v) F
 ·rename_i x v B
  simp only[ir] at p;obtain⟨r,H,F⟩:=iZ p.1.1;have q:ao.ml=.none:=by simpa using p.1.2
  have S:=p.2;rw[H] at S
  split at S
  ·rename_i s a3
   cases a3;have m:ao.dem=some s:=by simpa using S
   rw[B,H,q] at b;simp only[ju,kh,kf,kf0,jc,jg] at b;obtain⟨rfl,rfl⟩:=b;rw[q,m];exact MQ L hd (.inl v) F
  ·cases S
 ·rename_i x v B
  simp only[ir] at p;obtain⟨r,H,F⟩:=iZ p.1.1;have q:ao.ml=.none:=by simpa using p.1.2
  have S:=p.2;rw[H] at S
  split at S
  ·rename_i s a3
   cases a3;have m:ao.dem=some s:=by simpa using S
   rw[B,H,q] at b;simp only[ju,kh,kf,kf0,jc,jg] at b;obtain⟨rfl,rfl⟩:=b;rw[q,m];exact MQ L hd (.inr v) F
  ·cases S
 ·
  rename_i c x y v B;simp only[ir] at p;obtain⟨rc,rx,ry,H,N,O,J⟩:=G4 p.1;obtain⟨q,m⟩:=cB p.2;rw[B,H,q] at b;simp only[ju,kh] at b;generalize et:ev σ.fr rc=vc at b
  cases vc<;>simp only[kf,kf0,reduceCtorEq,jc,jg] at b
  obtain⟨rfl,rfl⟩:=b;rw[q,m];exact S3 L hd v N O J et
 ·
  rename_i e zero v B;simp only[ir] at p;have H:=uI p.1.1.1;have m:ao.dem=none:=by simpa using p.1.2
  obtain⟨d,S⟩:=we.1 p.2;rw[ap] at S;rw[B,H,S] at b;simp only[kh,kf,kf0,aj5] at b
  split at b
  ·rename_i Y
   obtain⟨q,hn⟩:=Y;simp only[jc,jg] at b;obtain⟨rfl,rfl⟩:=b;rw[q,m];rw[q] at hn;exact P8 L S (hd d S) v p.1.1.2 (by simpa [rdm] using hn)
  ·cases b
 ·rename_i e zero v B
  simp only[ir] at p;have H:=uI p.1.1.1;have m:ao.dem=none:=by simpa using p.1.2
  obtain⟨d,S⟩:=we.1 p.2;rw[ap] at S;rw[B,H,S] at b;simp only[kh,kf,kf0] at b
  split at b
  ·rename_i q
   simp only[jc,jg] at b;obtain⟨rfl,rfl⟩:=b;rw[q,m];exact KA L S (hd d S) v p.1.1.2
  ·cases b
 ·
  rename_i e x n v B;simp only[ir] at p;obtain⟨r,H,F⟩:=iZ p.1.1;have m:ao.dem=none:=by simpa using p.1.2
  obtain⟨d,S⟩:=we.1 p.2;rw[ap] at S;rw[B,H,S] at b;simp only[ju,kh,kf,kf0,aj5] at b
  split at b
  ·rename_i Y
   obtain⟨q,hn⟩:=Y;obtain⟨cs,ar,T⟩:=jf.1 b;simp only[jg] at T;obtain⟨rfl,rfl⟩:=T;rw[q,m];rw[q] at hn;exact aj L S (hd d S) v F ar (by simpa [rdm] using hn)
  ·cases b
 ·rename_i e x n v B
  simp only[ir] at p;obtain⟨r,H,F⟩:=iZ p.1.1;have m:ao.dem=none:=by simpa using p.1.2
  obtain⟨d,S⟩:=we.1 p.2;rw[ap] at S;rw[B,H,S] at b;simp only[ju,kh,kf,kf0] at b
  split at b
  ·rename_i q
   obtain⟨cs,ar,T⟩:=jf.1 b;simp only[jg] at T;obtain⟨rfl,rfl⟩:=T;rw[q,m];exact TA L S (hd d S) v F ar
  ·cases b
 ·
  rename_i t a7 zero pl v B;simp only[ir] at p;obtain⟨⟨⟨⟨N,O⟩,J⟩,R⟩,h5⟩:=p;obtain⟨q,m⟩:=cB J;rw[B,q] at b;simp only[kf,kf0] at b;obtain⟨cs,ar,T⟩:=jf.1 b;simp only[jg] at T;obtain⟨rfl,rfl⟩:=T;rw[q,m];exact P7 L hd v N O R h5 ar
 ·
  rename_i t a7 zero pl v B;simp only[ir] at p;obtain⟨⟨⟨⟨N,O⟩,J⟩,R⟩,h5⟩:=p;obtain⟨q,m⟩:=cB J;rw[B,q] at b;simp only[kf,kf0] at b;obtain⟨cs,ar,T⟩:=jf.1 b;simp only[jg] at T;obtain⟨rfl,rfl⟩:=T;rw[q,m];exact J9 L hd v N O R h5 ar
 ·
  rename_i t len a7 z zero dw pl v B;simp only[ir] at p;obtain⟨⟨⟨⟨N,O⟩,J⟩,R⟩,h5⟩:=p;obtain⟨q,m⟩:=cB O;have cp:len=dw:=by simpa using J
  have ew:pl=a7.toList.map (·.1):=by simpa using R
  subst cp;subst ew
  split at h5
  ·rename_i e Z
   simp only[ir,jo] at h5;obtain⟨⟨⟨h6,h7⟩,h8⟩,h9⟩:=h5;rw[B,q] at b;simp only[kf,kf0] at b;obtain⟨cs,ar,T⟩:=jf.1 b;simp only[jg] at T;obtain⟨rfl,rfl⟩:=T;rw[q,m];have a5:aY P e=some z:=by simpa using h6
   have ep:zero.length=z:=by
    obtain⟨i,_,i1,_,_,i2⟩:=jG h7;obtain⟨i',i3,i4⟩:=dZ a5;rw[i1] at i3;cases i3;omega
   exact Z1 L hd v N Z h7 a5 h9 h8 ar (by rw[uZ ar,eG,ep])
  ·cases h5
 ·
  rename_i t x agg n v B;simp only[ir] at p;obtain⟨r,H,F⟩:=iZ p.1.1;have m:ao.dem=none:=by simpa using p.1.2
  rw[B,H] at b;simp only[ju,kh,kf,kf0] at b;rw[m]
  split at b
  ·rename_i s off T
   split at b
   ·rename_i q
    rw[q] at b ⊢;obtain⟨cells,Y,b⟩:=jj.1 b;obtain⟨v',K,C⟩:=jf.1 b;simp only[jg] at C;obtain⟨rfl,rfl⟩:=C;have a4:wrm σ (rdm σ (.lo s)) (.lo s)=σ:=by
     show { σ with lo:=upd σ.lo s (σ.lo s) }=σ
     have:upd σ.lo s (σ.lo s)=σ.lo:=by funext t;unfold upd;split<;>simp_all
     rw[this]
    rw[a4];exact Z8 L hd v F p.2 T Y K
   ·cases b
  ·rename_i s off T
   split at b
   ·rename_i q
    rw[q] at b ⊢;obtain⟨cells,Y,b⟩:=jj.1 b;obtain⟨v',K,C⟩:=jf.1 b;simp only[jg] at C;obtain⟨rfl,rfl⟩:=C;exact MR L hd v F p.2 T Y K
   ·cases b
  ·rename_i cells T
   obtain⟨v',K,C⟩:=jf.1 b;simp only[jg] at C;obtain⟨rfl,rfl⟩:=C;have a4:wrm σ (rdm σ ao.ml) ao.ml=σ:=by
    cases ao.ml with
    | none=>rfl
    | sh=>rfl
    | lo s =>
     show { σ with lo:=upd σ.lo s (σ.lo s) }=σ
     have:upd σ.lo s (σ.lo s)=σ.lo:=by funext t;unfold upd;split<;>simp_all
     rw[this]
   rw[a4];exact Z9 L hd v F p.2 T K
  ·cases b
 ·
  rename_i t x y n v B;simp only[ir] at p;obtain⟨⟨⟨N,O⟩,J⟩,R⟩:=p;obtain⟨rx,ry,H,X,V⟩:=iC N;have m:ao.dem=none:=by simpa using O
  have ag:o.dst=none:=by rw[<- ap];simpa using J
  have a5:aY P t=some n:=by simpa using R
  rw[B,H] at b;simp only[ju,kh,kf,kf0] at b;rw[m,ag]
  split at b
  ·rename_i s off T
   split at b
   ·rename_i q
    rw[q] at b ⊢;obtain⟨cells,Y,b⟩:=jj.1 b;obtain⟨cs,ar,b⟩:=jj.1 b;obtain⟨c',b4,C⟩:=jf.1 b;simp only[jg] at C;obtain⟨rfl,rfl⟩:=C;exact ZS L v ag X V a5 T Y ar b4
   ·cases b
  ·rename_i s off T
   split at b
   ·rename_i q
    rw[q] at b ⊢;obtain⟨cells,Y,b⟩:=jj.1 b
    split at b
    ·rename_i a8
     obtain⟨cs,ar,b⟩:=jj.1 b;obtain⟨c',b4,C⟩:=jf.1 b;simp only[jg] at C;obtain⟨rfl,rfl⟩:=C;exact ZR L v ag X V a5 T Y a8 ar b4
    ·cases b
   ·cases b
  ·cases b
 ·
  rename_i x v B;simp only[ir] at p;obtain⟨r,H,F⟩:=iZ p.1;obtain⟨q,m⟩:=cB p.2;rw[B,H,q] at b;simp only[ju,kh,kf,kf0] at b;rw[q,m];have cv:(∃ i j,ev σ.fr r=.ptr i j)\/(∃ i j,ev σ.fr r=.loc i j)\/(∃ l,ev σ.fr r=.ip l):=by
   split at b
   ·rename_i i j T;exact .inl ⟨i,j,T⟩
   ·rename_i i j T;exact .inr (.inl ⟨i,j,T⟩)
   ·rename_i l T;exact .inr (.inr ⟨l,T⟩)
   ·cases b
  have hv:bv=ev σ.fr r/\dy=rdm σ .none:=by
   split at b
   all_goals first | (simp only[jc,jg] at b;exact⟨b.1.symm,b.2.symm⟩) | cases b
  obtain⟨rfl,rfl⟩:=hv;exact S4 L hd v F cv
 ·
  rename_i op t x y t' op' v B;simp only[ir] at p;obtain⟨rx,ry,H,X,V⟩:=iC p.1.1;obtain⟨q,m⟩:=cB p.1.2;have bo:op=op':=by simpa using p.2
  subst bo;rw[B,H,q] at b;simp only[ju,kh,kf,kf0] at b;obtain⟨v',K,C⟩:=jf.1 b;simp only[jg] at C;obtain⟨rfl,rfl⟩:=C;rw[q,m];exact ak L hd v X V K
 ·
  rename_i op t x y t' ne ks v B;simp only[ir] at p;obtain⟨⟨⟨N,O⟩,J⟩,R⟩:=p;obtain⟨rx,ry,H,X,V⟩:=iC N;obtain⟨q,m⟩:=cB O
  split at R
  ·rename_i fs ht
   simp only[ir,aa8] at R;obtain⟨⟨h5,h6⟩,h7⟩:=R;rw[B,H,q] at b;simp only[ju,kh] at b;generalize D:ev σ.fr rx=vx at b;generalize av:ev σ.fr ry=vy at b
   cases vx<;>cases vy<;>simp only[kf,kf0,reduceCtorEq] at b
   obtain⟨r,bg,C⟩:=jf.1 b;simp only[jg] at C;obtain⟨rfl,rfl⟩:=C;rw[q,m];exact ZW L hd v J ht h5 h6 h7 X V D av bg
  ·cases R
 ·
  rename_i t x t' v B;simp only[ir] at p;obtain⟨⟨N,O⟩,R⟩:=p;obtain⟨r,H,F⟩:=iZ N;obtain⟨q,m⟩:=cB O
  split at R
  ·rename_i e ht
   rw[B,H,q] at b;simp only[ju,kh] at b;generalize D:ev σ.fr r=vx at b
   cases vx with
   | sl mm zz ll =>
    cases ll with
    | nil=>simp only[kf,kf0,reduceCtorEq] at b
    | cons rr ll =>
     simp only[kf,kf0,jc,jg] at b;obtain⟨rfl,rfl⟩:=b;rw[q,m];exact ae L hd v ht F D
   | _=>simp only[kf,kf0,reduceCtorEq] at b
  ·cases R
 ·
  rename_i op t x op' v B;simp only[ir] at p;obtain⟨r,H,F⟩:=iZ p.1.1;obtain⟨q,m⟩:=cB p.1.2;have bo:op=op':=by simpa using p.2
  subst bo;rw[B,H,q] at b;simp only[ju,kh] at b;generalize D:ev σ.fr r=vx at b;rw[q,m]
  cases op<;>cases vx<;>simp only[kf,kf0,reduceCtorEq,jc,jg] at b
  ·obtain⟨rfl,rfl⟩:=b
   exact ZZ L hd v F D
  ·obtain⟨rfl,rfl⟩:=b
   exact ZY L hd v F D
 ·
  rename_i t x lo hi str z l h v B;simp only[ir] at p;obtain⟨⟨⟨⟨N,O⟩,J⟩,R⟩,h5⟩:=p;obtain⟨q,m⟩:=cB O;have b0:(∃ e,P.underlying t=some (.slice e)/\str=false/\aY P e=some z)\/(P.underlying t=some .string/\str=true):=by
   split at h5
   ·rename_i e Z
    simp at h5;exact .inl ⟨e,Z,h5.1,h5.2⟩
   ·rename_i Z;exact .inr ⟨Z,h5⟩
   ·cases h5
  have hl:l=lo.isSome:=by simpa using (Lh.1 J).symm
  have hh:h=hi.isSome:=by simpa using (Lh.1 R).symm
  subst hl;subst hh;rw[B,q] at b;rw[q,m];have bb:∀ {y:Operand} {r:AR},okR y r=true->(∃ k n,ev σ.fr r=.int k n)->vJ (some (ev σ.fr r)) (some (a.eval y)):=by
   rintro y r V ⟨k,n,hv⟩
   exact FP L V hv
  cases lo with
  | none=>cases hi with
   | none =>
    obtain⟨r,H,F⟩:=iZ (M:=x) (by simpa using N);rw[H] at b;simp only[ju,kh,ab6,kf,kf0] at b;obtain⟨v',K,C⟩:=jf.1 b;simp only[jg] at C;obtain⟨rfl,rfl⟩:=C;exact pC L hd v F b0 (eh:=none) (io:=none) trivial trivial K
   | some y =>
    obtain⟨r,ry,H,F,V⟩:=iC (M:=x) (bi:=y) (by simpa using N);rw[H] at b;simp only[ju,kh,ab6,ab2,kf,kf0] at b;obtain⟨v',K,C⟩:=jf.1 b;simp only[jg] at C;obtain⟨rfl,rfl⟩:=C;exact pC L hd v F b0 (eh:=none) (io:=some (ev σ.fr ry)) trivial (bb V ((jJ K).2 _ rfl)) K
  | some y=>cases hi with
   | none =>
    obtain⟨r,ry,H,F,V⟩:=iC (M:=x) (bi:=y) (by simpa using N);rw[H] at b;simp only[ju,kh,ab6,ab2,kf,kf0] at b;obtain⟨v',K,C⟩:=jf.1 b;simp only[jg] at C;obtain⟨rfl,rfl⟩:=C;exact pC L hd v F b0 (eh:=some (ev σ.fr ry)) (io:=none) (bb V ((jJ K).1 _ rfl)) trivial K
   | some y' =>
    obtain⟨r,ry,ds,H,F,V,b9⟩:=G4 (M:=x) (bi:=y) (ij:=y') (by simpa using N);rw[H] at b;simp only[ju,kh,ab2,kf,kf0] at b;obtain⟨v',K,C⟩:=jf.1 b;simp only[jg] at C;obtain⟨rfl,rfl⟩:=C;exact pC L hd v F b0 (eh:=some (ev σ.fr ry)) (io:=some (ev σ.fr ds)) (bb V ((jJ K).1 _ rfl)) (bb b9 ((jJ K).2 _ rfl)) K
 ·
  rename_i t x fi off v B;simp only[ir] at p;obtain⟨⟨N,O⟩,J⟩:=p;obtain⟨r,H,F⟩:=iZ N;obtain⟨q,m⟩:=cB O
  split at J
  ·rename_i fs Z
   split at J
   ·rename_i f hf
    simp only[ir] at J;have cm:off=f.offset:=by simpa using (Lh.1 J.1).symm
    subst cm;have R:=J.2
    split at R
    ·rename_i n hn
     have b5:n≠0:=by simpa using R
     rw[B,H,q] at b;simp only[ju,kh,kf,kf0] at b;rw[q,m]
     split at b<;>rename_i T<;>simp only[reduceCtorEq,jc,jg] at b<;>obtain⟨rfl,rfl⟩:=b
     ·exact J8 L hd v F Z hf hn b5 T (.inl ⟨_,_,rfl,rfl⟩)
     ·exact J8 L hd v F Z hf hn b5 T (.inr (.inl ⟨_,_,rfl,rfl⟩))
     ·exact J8 L hd v F Z hf hn b5 T (.inr (.inr ⟨_,rfl,rfl⟩))
    ·cases R
   ·cases J
  ·cases J
 ·
  rename_i t x i z v B;simp only[ir] at p;obtain⟨⟨N,O⟩,J⟩:=p;obtain⟨rx,ry,H,X,V⟩:=iC N;obtain⟨q,m⟩:=cB O
  split at J
  ·rename_i e Z
   have hz:aY P e=some z:=by simpa using J
   rw[B,H,q] at b;simp only[ju,kh] at b;generalize D:ev σ.fr rx=vx at b;generalize av:ev σ.fr ry=vy at b
   cases vx<;>cases vy<;>simp only[kf,kf0,reduceCtorEq] at b
   ·split at b
    ·rename_i Y
     obtain⟨rfl,h0⟩:=Y;obtain⟨v',K,C⟩:=jf.1 b;simp only[jg] at C;obtain⟨rfl,rfl⟩:=C;rw[q,m];exact zr L hd v X V Z hz D av h0 K
    ·cases b
   ·split at b
    ·rename_i Y
     obtain⟨rfl,h0,br⟩:=Y;simp only[jc,jg] at b;obtain⟨rfl,rfl⟩:=b;rw[q,m];exact Px L hd v X V Z hz D av h0 br
    ·cases b
  ·cases J
 ·
  rename_i t x i z len v B;simp only[ir] at p;obtain⟨⟨N,O⟩,J⟩:=p;obtain⟨rx,ry,H,X,V⟩:=iC N;obtain⟨q,m⟩:=cB O
  split at J
  ·rename_i n e Z
   simp only[ir] at J;have hn:n=len:=by simpa using J.1
   subst hn;have hz:aY P e=some z:=by simpa using J.2
   rw[B,H,q] at b;simp only[ju,kh] at b;generalize av:ev σ.fr ry=vy at b
   cases vy<;>simp only[kf,kf0,reduceCtorEq] at b
   split at b
   ·rename_i Y
    obtain⟨h0,br⟩:=Y;rw[q,m]
    split at b<;>rename_i T<;>simp only[reduceCtorEq,jc,jg] at b<;>obtain⟨rfl,rfl⟩:=b
    ·exact D4 L hd v X V Z hz T av h0 br (.inl ⟨_,_,rfl,rfl⟩)
    ·exact D4 L hd v X V Z hz T av h0 br (.inr (.inl ⟨_,_,rfl,rfl⟩))
    ·exact D4 L hd v X V Z hz T av h0 br (.inr (.inr ⟨_,rfl,rfl⟩))
   ·cases b
  ·cases J
 ·
  rename_i t x i v B;simp only[ir] at p;obtain⟨⟨N,O⟩,J⟩:=p;obtain⟨rx,ry,H,X,V⟩:=iC N;obtain⟨q,m⟩:=cB O
  split at J
  ·rename_i Z
   rw[B,H,q] at b;simp only[ju,kh] at b;generalize D:ev σ.fr rx=vx at b;generalize av:ev σ.fr ry=vy at b
   cases vx<;>cases vy<;>simp only[kf,kf0,reduceCtorEq] at b
   split at b
   ·rename_i h0
    obtain⟨v',K,C⟩:=jf.1 b;simp only[jg] at C;obtain⟨rfl,rfl⟩:=C;rw[q,m];exact aa L hd v X V Z D av h0 K
   ·cases b
  ·cases J
 ·
  rename_i xs ts str v B;simp only[ir] at p;obtain⟨⟨⟨N,O⟩,J⟩,R⟩:=p;obtain⟨x,rfl⟩:∃ x,xs=#[x]:=by
   have:xs.size=1:=by simpa using J
   exact Array.size_eq_one_iff.1 this
  obtain⟨r,H,F⟩:=iZ (M:=x) (by simpa using N);obtain⟨q,m⟩:=cB O
  split at R
  ·rename_i t hts
   rw[B,H,q] at b;simp only[ju,kh] at b;generalize D:ev σ.fr r=vx at b;rw[q,m]
   split at R
   ·rename_i Z
    have b7:str=true:=by simpa using R
    subst b7
    cases vx<;>simp only[kf,kf0,reduceCtorEq,jc,jg] at b
    obtain⟨rfl,rfl⟩:=b;exact S7 L hd v F hts Z D
   ·rename_i e Z
    have b7:str=false:=by simpa using R
    subst b7
    cases vx<;>simp only[kf,kf0,reduceCtorEq,jc,jg] at b
    ·obtain⟨rfl,rfl⟩:=b
     exact S8 L hd v F hts Z D
    ·obtain⟨rfl,rfl⟩:=b
     exact Br L hd v F hts Z D
   ·cases R
  ·cases R
 ·
  rename_i xs ts v B;simp only[ir] at p;obtain⟨⟨N,O⟩,J⟩:=p;obtain⟨x,y,rfl⟩:∃ x y,xs=#[x,y]:=by
   have:xs.size=2:=by simpa using J
   exact vL this
  obtain⟨rx,ry,H,X,V⟩:=iC (M:=x) (bi:=y) (by simpa using N);obtain⟨q,m⟩:=cB O;rw[B,H,q] at b;simp only[ju,kh] at b;generalize D:ev σ.fr rx=vx at b;generalize av:ev σ.fr ry=vy at b
  cases vx<;>cases vy<;>simp only[kf,kf0,reduceCtorEq] at b
  split at b
  ·rename_i T
   subst T;simp only[jc,jg] at b;obtain⟨rfl,rfl⟩:=b;rw[q,m];exact S6 L hd (U:=true) v X V D av
  ·cases b
 ·
  rename_i xs ts v B;simp only[ir] at p;obtain⟨⟨N,O⟩,J⟩:=p;obtain⟨x,y,rfl⟩:∃ x y,xs=#[x,y]:=by
   have:xs.size=2:=by simpa using J
   exact vL this
  obtain⟨rx,ry,H,X,V⟩:=iC (M:=x) (bi:=y) (by simpa using N);obtain⟨q,m⟩:=cB O;rw[B,H,q] at b;simp only[ju,kh] at b;generalize D:ev σ.fr rx=vx at b;generalize av:ev σ.fr ry=vy at b
  cases vx<;>cases vy<;>simp only[kf,kf0,reduceCtorEq] at b
  split at b
  ·rename_i T
   subst T;simp only[jc,jg] at b;obtain⟨rfl,rfl⟩:=b;rw[q,m];exact S6 L hd (U:=false) v X V D av
  ·cases b
 ·
  rename_i xs ts str z bytes v B;simp only[ir] at p;obtain⟨⟨⟨⟨N,O⟩,J⟩,R⟩,h5⟩:=p;obtain⟨x,y,rfl⟩:∃ x y,xs=#[x,y]:=by
   have:xs.size=2:=by simpa using J
   exact vL this
  obtain⟨rx,ry,H,X,V⟩:=iC (M:=x) (bi:=y) (by simpa using N);have q:ao.ml=.none:=by simpa using O
  have m:(∃ s,rx=.t s/\ao.dem=some s)\/(∃ bv,rx=.c bv/\ao.dem=none):=by
   rw[H] at R
   split at R
   ·rename_i s rest T
    cases T;exact .inl ⟨s,rfl,by simpa using R⟩
   ·rename_i u rest T
    cases T;exact .inr ⟨u,rfl,by simpa using R⟩
   ·cases R
  split at h5
  ·rename_i t u hts
   have a0:ts=#[t,u]:=by
    apply ag1;simpa using hts
   subst a0
   split at h5
   ·rename_i e Z
    simp only[ir] at h5;obtain⟨h6,h7⟩:=h5
    split at h6
    ·rename_i i hi
     simp only[ir] at h6;obtain⟨⟨h8,h9⟩,ab⟩:=h6
     split at ab
     ·rename_i zv b3
      have b8:∃ ud,P.underlying u=some ud/\∀ k,ud≠.int k:=by
       split at h7
       ·rename_i a6;exact⟨_,a6,λk e=>by cases e⟩
       ·rename_i a6;exact⟨_,a6,λk e=>by cases e⟩
       ·cases h7
      obtain⟨ud,a1,a2⟩:=b8;rw[B,H,q] at b;simp only[ju,kh] at b;generalize D:ev σ.fr rx=vx at b
      cases vx<;>simp only[kf,kf0,reduceCtorEq] at b
      obtain⟨l2,a9,b⟩:=jj.1 b
      split at b
      ·rename_i Y
       obtain⟨c1,c2,c3,c4,c5⟩:=Y;simp only[jc,jg] at b;obtain⟨rfl,rfl⟩:=b;rw[q];exact an L hd v X V m Z a1 a2 hi (by simpa using h8) (by simpa using h9) b3 (by simpa using ab) D a9 c1 c2 c3 c4 c5
      ·cases b
     ·cases ab
    ·cases h6
   ·cases h5
  ·cases h5
 ·
  rename_i f first caps f' v B
  simp only[ir] at p;obtain⟨⟨⟨N,O⟩,J⟩,R⟩:=p;obtain⟨q,m⟩:=cB O;have hf:f=f':=by simpa using J
  subst hf;rw[B,q] at b;simp only[kf,kf0] at b
  split at b
  ·rename_i Y
   simp only[jc,jg] at b;obtain⟨rfl,rfl⟩:=b;rw[q,m];exact Z4 L hd v R N Y
  ·cases b
 ·
  rename_i f xs ts f' v B;simp only[ir] at p;obtain⟨⟨N,O⟩,J⟩:=p;have m:ao.dem=none:=by simpa using O
  have hf:f=f':=by simpa using J
  subst hf;rw[B] at b;simp only[kf,kf0] at b;rw[m];exact S9 L hd hG v N b
 ·
  rename_i t xs ts v B;simp only[ir] at p;obtain⟨N,O⟩:=p;have m:ao.dem=none:=by simpa using O
  obtain⟨r,rs,H,eu,bg⟩:=uH N;rw[B,H] at b;simp only[ju] at b;generalize D:ev σ.fr r=vx at b
  cases vx<;>simp only[kf,A4,reduceCtorEq] at b
  rw[m];exact P5 L hd hG v eu bg D b
 ·
  rename_i x i i' v B;simp only[ir] at p;obtain⟨r,H,F⟩:=iZ p.1.1;obtain⟨q,m⟩:=cB p.1.2;have hi:i=i':=by simpa using p.2
  subst hi;rw[B,H,q] at b;simp only[ju,kh] at b;generalize D:ev σ.fr r=vx at b
  cases vx<;>simp only[kf,kf0,reduceCtorEq] at b
  obtain⟨v',K,C⟩:=jf.1 b;simp only[jg] at C;obtain⟨rfl,rfl⟩:=C;rw[q,m];exact af L hd v F D K
 ·
  rename_i t x v B;simp only[ir] at p;obtain⟨r,H,F⟩:=iZ p.1.1;have m:ao.dem=none:=by simpa using p.1.2
  rw[B,H] at b;simp only[ju,kh] at b;generalize D:ev σ.fr r=vx at b
  cases vx<;>simp only[kf,kf0,reduceCtorEq] at b
  rw[m]
  split at b
  ·rename_i q
   rw[q] at b ⊢;obtain⟨cells,Y,b⟩:=jj.1 b
   split at b
   ·rename_i a8
    obtain⟨y,V,b⟩:=jj.1 b
    split at b
    ·simp only[jc,jg] at b
     obtain⟨rfl,rfl⟩:=b;exact Z6 L hd v F p.2 D Y a8 V
    ·simp only[jc,jg] at b
     obtain⟨rfl,rfl⟩:=b;exact Z7 L hd v F p.2 D Y V
    ·cases b
   ·cases b
  ·cases b
 ·
  rename_i t x y v B;simp only[ir] at p;obtain⟨⟨⟨N,O⟩,J⟩,R⟩:=p;obtain⟨rx,ry,H,X,V⟩:=iC N;have m:(∃ s,ry=.t s/\ao.dem=some s)\/(∃ bv,ry=.c bv/\ao.dem=none):=by
   unfold NN at O;rw[H] at O
   cases ry with
   | t s=>exact .inl ⟨s,rfl,by simpa using O⟩
   | c bv=>exact .inr ⟨bv,rfl,by simpa using O⟩
  have ag:o.dst=none:=by rw[<- ap];simpa using J
  have a5:aY P t=some 1:=by simpa using R
  rw[B,H] at b;simp only[ju,kh] at b;generalize D:ev σ.fr rx=vx at b;generalize av:ev σ.fr ry=vy at b
  cases vx<;>simp only[kf,kf0,reduceCtorEq] at b
  rw[ag]
  split at b
  ·rename_i q
   rw[q] at b ⊢;obtain⟨cells,Y,b⟩:=jj.1 b
   split at b
   ·rename_i a8
    split at b
    ·simp only[jc,jg] at b
     obtain⟨rfl,rfl⟩:=b;exact ZQ L v ag X V a5 m D Y a8.1 a8.2 av
    ·cases b
   ·cases b
  ·cases b
 ·
  rename_i src dst x k v B;simp only[ir] at p;obtain⟨⟨⟨N,O⟩,J⟩,R⟩:=p;obtain⟨r,H,F⟩:=iZ N;obtain⟨q,m⟩:=cB O;rw[B,H,q] at b;simp only[ju,kh] at b;generalize D:ev σ.fr r=vx at b
  cases vx<;>simp only[kf,kf0,reduceCtorEq,jc,jg] at b
  obtain⟨rfl,rfl⟩:=b;rw[q,m];exact ah L hd v J R F D
 ·
  rename_i src dst x v B;simp only[ir] at p;obtain⟨⟨⟨N,O⟩,J⟩,R⟩:=p;obtain⟨r,H,F⟩:=iZ N;have m:ao.dem=none:=by simpa using O
  rw[B,H] at b;simp only[ju,kh] at b;generalize D:ev σ.fr r=vx at b
  cases vx<;>simp only[kf,kf0,reduceCtorEq] at b
  rw[m]
  split at b
  ·rename_i q
   rw[q.1] at b ⊢;simp only[jc,jg] at b;obtain⟨rfl,rfl⟩:=b;exact ZX L hd v F J R D
  ·cases b
 ·
  rename_i src dst x v B;simp only[ir] at p;obtain⟨⟨⟨N,O⟩,J⟩,R⟩:=p;obtain⟨r,H,F⟩:=iZ N;have m:ao.dem=none:=by simpa using O
  rw[B,H] at b;simp only[ju,kh] at b;generalize D:ev σ.fr r=vx at b
  cases vx<;>simp only[kf,kf0,reduceCtorEq] at b
  ·rw[m]
   split at b
   ·rename_i hz
    subst hz;obtain⟨s,a3,T⟩:=jf.1 b;simp only[jg] at T;obtain⟨rfl,rfl⟩:=T;rw[y9];exact am L hd v F J R D a3
   ·cases b
  ·rw[m]
   split at b
   ·rename_i hz
    obtain⟨q,rfl⟩:=hz;obtain⟨l,hl,b⟩:=jj.1 b;obtain⟨s,a3,T⟩:=jf.1 b;simp only[jg] at T;obtain⟨rfl,rfl⟩:=T;rw[y9];rw[q] at hl;simp only[eM,ab3,kp] at hl;obtain⟨cells,Y,hl⟩:=jj.1 hl;exact TB L hd v F J R D Y hl a3
   ·cases b
 ·
  rename_i t l c z zero bytes v B;simp only[ir] at p;obtain⟨⟨N,O⟩,J⟩:=p;obtain⟨rx,ry,H,X,V⟩:=iC N;have m:ao.dem=none:=by simpa using O
  split at J
  ·rename_i e Z
   simp only[ir] at J;obtain⟨⟨R,h5⟩,h6⟩:=J;have hz:aY P e=some z:=by simpa using R
   split at h6
   ·rename_i i hi
    have hb:i.bytes=bytes:=by simpa using h6
    rw[B,H] at b;simp only[ju,kh] at b;generalize D:ev σ.fr rx=vx at b;generalize av:ev σ.fr ry=vy at b
    cases vx<;>cases vy<;>simp only[kf,kf0,reduceCtorEq] at b
    rw[m]
    split at b
    ·rename_i Y
     obtain⟨q,rfl,rfl,c1,c2,c3,c4,c5,c6⟩:=Y;rw[q] at b ⊢;simp only[jc,jg] at b;obtain⟨rfl,rfl⟩:=b;exact Z3 L hd v X V Z hz h5 hi hb D av c1 c2 c3 c4 c5 c6
    ·cases b
   ·cases h6
  ·cases J
 ·
  rename_i xs ts str z bytes v B;simp only[ir] at p;obtain⟨⟨⟨N,O⟩,J⟩,h5⟩:=p;obtain⟨x,y,rfl⟩:∃ x y,xs=#[x,y]:=by
   have:xs.size=2:=by simpa using J
   exact vL this
  obtain⟨rx,ry,H,X,V⟩:=iC (M:=x) (bi:=y) (by simpa using N);have m:ao.dem=none:=by simpa using O
  split at h5
  ·rename_i t u hts
   have a0:ts=#[t,u]:=by
    apply ag1;simpa using hts
   subst a0
   split at h5
   ·rename_i e Z
    simp only[ir] at h5;obtain⟨h6,h7⟩:=h5
    split at h6
    ·rename_i i hi
     simp only[ir] at h6;obtain⟨⟨h8,h9⟩,ab⟩:=h6
     split at ab
     ·rename_i zv b3
      have b8:∃ ud,P.underlying u=some ud/\∀ k,ud≠.int k:=by
       split at h7
       ·rename_i a6;exact⟨_,a6,λk e=>by cases e⟩
       ·rename_i a6;exact⟨_,a6,λk e=>by cases e⟩
       ·cases h7
      obtain⟨ud,a1,a2⟩:=b8;rw[B,H] at b;simp only[ju,kh,kf,kf0] at b;rw[m]
      split at b
      ·rename_i q
       rw[q] at b ⊢;obtain⟨l2,a9,b⟩:=jj.1 b
       split at b
       ·rename_i z' D
        split at b
        ·rename_i d3
         subst d3;simp only[jc,jg] at b;obtain⟨rfl,rfl⟩:=b;obtain⟨dv,n1,n2,n3,n4,n5⟩:=lG (P:=P) L V a9;have b6:dv=[]:=js (by simpa using n1);subst b6;obtain⟨A,c,e1,e2,e3,_⟩:=L.rdSl X D;have dn:c=0:=by simpa using e3 rfl
         subst dn;have dk:i.size=z:=by simpa using h8
         have cg:=nZ (P:=P) (w:=w) (bx:=o.type) (ei:=A) (j:=0) (n:=0) Z a1 a2 hi (by simpa using n4) (by rw[dk];simpa using n5) (ji _);refine aI L hd (I:=.slice A 0 0) ?_ rfl ?_
         ·have dp:a.eval x=.slice A 0 0:=e1
          simp [execOp,v,resolve,invoke,builtin,dp,cg]
         ·show aG _ _ (.sl .full z []) _
          simp only[aG];exact⟨A,0,rfl,ji _,λ_=>rfl,by simp,.inl trivial⟩
        ·rename_i ey
         split at b
         ·rename_i Y
          simp only[jc,jg] at b;obtain⟨rfl,rfl⟩:=b;exact TE L hd v X V Z a1 a2 hi (by simpa using h8) (by simpa using h9) b3 (by simpa using ab) D a9 ey Y.1 Y.2.1 Y.2.2
         ·cases b
       ·rename_i so off n z' D
        split at b
        ·rename_i Y
         obtain⟨rfl,rfl,c3,c4,c5⟩:=Y;obtain⟨cells,dl,b⟩:=jj.1 b
         split at b
         ·rename_i hb
          simp only[jc,jg] at b;obtain⟨rfl,rfl⟩:=b;exact TD L hd v X V Z a1 a2 hi (by simpa using h8) (by simpa using h9) b3 (by simpa using ab) D a9 dl hb.1 hb.2.1 hb.2.2 c3 c4 c5
         ·cases b
        ·cases b
       ·cases b
      ·cases b
     ·cases ab
    ·cases h6
   ·cases h5
  ·cases h5
 ·
  rename_i t v B;simp only[ir] at p;have H:=uI p.1;have m:ao.dem=none:=by simpa using p.2
  rw[B,H] at b;simp only[kh,kf,kf0] at b;rw[m]
  split at b
  ·rename_i q
   rw[q] at b ⊢;simp only[jc,jg] at b;obtain⟨rfl,rfl⟩:=b;exact Z2 L hd v
  ·cases b
 ·
  rename_i t x y en ok agg kk zero v B;simp only[ir] at p;obtain⟨⟨⟨N,O⟩,J⟩,R⟩:=p;obtain⟨rx,ry,H,X,V⟩:=iC N;have m:ao.dem=none:=by simpa using O
  have ci:en=ok:=by simpa using J
  subst ci
  split at R
  ·rename_i key elem Z
   simp only[ir] at R;rw[B,H] at b;simp only[ju,kh] at b;generalize D:ev σ.fr rx=vx at b
   cases vx<;>simp only[kf,kf0,reduceCtorEq] at b
   rw[m]
   split at b
   ·rename_i Y
    obtain⟨q,da⟩:=Y;rw[q] at b ⊢;obtain⟨l,hl,b⟩:=jj.1 b;obtain⟨r,bg,b⟩:=jj.1 b;obtain⟨v',K,T⟩:=jf.1 b;simp only[jg] at T;obtain⟨rfl,rfl⟩:=T;rw[y9];exact Z5 L hd v X V Z R.1 R.2 D (HP hl) bg K da
   ·cases b
  ·cases R
 ·
  rename_i t mm k x kk v B;simp only[ir] at p;obtain⟨⟨⟨N,O⟩,J⟩,R⟩:=p;obtain⟨rm,rx,ry,H,hm,X,V⟩:=G4 N;have m:ao.dem=none:=by simpa using O
  have ag:o.dst=none:=by rw[<- ap];simpa using J
  split at R
  ·rename_i key elem Z
   rw[B,H] at b;simp only[ju,kh] at b;generalize er:ev σ.fr rm=vm at b
   cases vm<;>simp only[kf,kf0,reduceCtorEq] at b
   rw[m,ag]
   split at b
   ·rename_i Y
    obtain⟨q,sx,sy⟩:=Y;rw[q] at b ⊢;obtain⟨l,hl,b⟩:=jj.1 b;obtain⟨l',d0,T⟩:=jf.1 b;simp only[jg] at T;obtain⟨rfl,rfl⟩:=T;exact Z0 L v ag hm X V Z R er (HP hl) d0 sx sy
   ·cases b
  ·cases R
 ·
  rename_i t x i agg z len v B;simp only[ir] at p;obtain⟨⟨N,O⟩,J⟩:=p;obtain⟨rx,ry,H,X,V⟩:=iC N;obtain⟨q,m⟩:=cB O
  split at J
  ·rename_i n e Z
   simp only[ir] at J;have hn:n=len:=by simpa using J.1
   subst hn;rw[B,H,q] at b;simp only[ju,kh] at b;generalize D:ev σ.fr rx=vx at b;generalize av:ev σ.fr ry=vy at b
   cases vx<;>cases vy<;>simp only[kf,kf0,reduceCtorEq] at b
   rw[q,m]
   split at b
   ·rename_i Y
    obtain⟨v',K,C⟩:=jf.1 b;simp only[jg] at C;obtain⟨rfl,rfl⟩:=C;exact ac L hd v X V Z J.2 D av Y.1 Y.2.1 Y.2.2 K
   ·cases b
  ·cases J
 ·
  rename_i op t x y t' l v B;simp only[ir] at p;obtain⟨⟨N,O⟩,J⟩:=p;obtain⟨rx,ry,H,X,V⟩:=iC N;obtain⟨q,m⟩:=cB O;rw[B,H,q] at b;simp only[ju,kh,kf,kf0] at b;obtain⟨v',K,C⟩:=jf.1 b;simp only[jg] at C;obtain⟨rfl,rfl⟩:=C;rw[q,m];exact ZV L hd v J X V K
 ·
  rename_i f xs ts f' v B;simp only[ir] at p;obtain⟨⟨N,O⟩,J⟩:=p;have m:ao.dem=none:=by simpa using O
  have hf:f=f':=by simpa using J
  subst hf;rw[B] at b;simp only[kf] at b;rw[m];exact P6 L hd hG v N b
 ·
  rename_i t x lo hi z l v B;simp only[ir] at p;obtain⟨⟨⟨N,O⟩,J⟩,R⟩:=p;have m:ao.dem=none:=by simpa using O
  have hl:l=lo.isSome:=by simpa using (Lh.1 J).symm
  subst hl
  split at R
  ·rename_i e Z
   have hz:aY P e=some z:=by simpa using R
   rw[m]
   cases lo with
   | none =>
    obtain⟨rx,ry,H,X,V⟩:=iC (M:=x) (bi:=hi) (by simpa using N);rw[B,H] at b;simp only[ju,kh,ab6,kf,kf0] at b
    split at b
    ·rename_i q
     rw[q] at b ⊢;obtain⟨v',K,C⟩:=jf.1 b;simp only[jg] at C;obtain⟨rfl,rfl⟩:=C;exact D3 L hd v X V Z hz (eh:=none) trivial (tU K).2 K
    ·cases b
   | some y =>
    obtain⟨rx,ry,ds,H,X,V,b9⟩:=G4 (M:=x) (bi:=y) (ij:=hi) (by simpa using N);rw[B,H] at b;simp only[ju,kh,ab2,kf,kf0] at b
    split at b
    ·rename_i q
     rw[q] at b ⊢;obtain⟨v',K,C⟩:=jf.1 b;simp only[jg] at C;obtain⟨rfl,rfl⟩:=C;obtain⟨k,n,cq⟩:=(tU K).1 _ rfl;exact D3 L hd v X b9 Z hz (eh:=some (ev σ.fr ry)) (FP L V cq) (tU K).2 K
    ·cases b
  ·cases R
 ·
  rename_i t x lo hi len v B;simp only[ir] at p;obtain⟨⟨N,O⟩,J⟩:=p;have m:ao.dem=none:=by simpa using O
  obtain⟨rx,ri,rj,H,X,hi',db⟩:=G4 N
  split at J
  ·rename_i n e Z
   simp only[ir] at J;have hn:n=len:=by simpa using J.1
   subst hn;have hz:aY P e=some 1:=by simpa using J.2
   rw[B,H] at b;simp only[ju,kh,kf] at b;cases D:ev σ.fr rx<;>cases cb:ev σ.fr ri<;>cases ca:ev σ.fr rj<;>rw[D,cb,ca] at b<;>simp only[kf0,reduceCtorEq] at b
   split at b
   ·rename_i Y
    obtain⟨q,q0,q1,q2⟩:=Y;obtain⟨cells,q3,q4⟩:=jj.1 b
    split at q4
    ·rename_i dm
     obtain⟨q5,q6⟩:=dm;simp only[jc,jg] at q4;obtain⟨rfl,rfl⟩:=q4;rw[q,m];rw[q] at q3;exact ZU L hd v X hi' db Z hz D cb ca q0 q1 q2 q3 q5 q6
    ·cases q4
   ·cases b
  ·cases J
 ·
  rename_i xs ts z v B;simp only[ir] at p;obtain⟨⟨⟨N,O⟩,J⟩,h5⟩:=p;obtain⟨x,y,rfl⟩:∃ x y,xs=#[x,y]:=by
   have:xs.size=2:=by simpa using J
   exact vL this
  obtain⟨rx,ry,H,X,V⟩:=iC (M:=x) (bi:=y) (by simpa using N);have m:ao.dem=none:=by simpa using O
  split at h5
  ·rename_i t u hts
   have a0:ts=#[t,u]:=by
    apply ag1;simpa using hts
   subst a0
   split at h5
   ·rename_i e Z
    have hz:aY P e=some z:=by simpa using h5
    rw[B,H] at b;simp only[ju,kh,kf,kf0] at b;rw[m]
    split at b
    ·rename_i q
     rw[q] at b ⊢;obtain⟨⟨v',sh'⟩,K,C⟩:=jf.1 b;simp only[jg] at C;obtain⟨rfl,rfl⟩:=C;exact ai L hd v X V Z hz K
    ·cases b
   ·cases h5
  ·cases h5
 ·
  rename_i t x hi z v B;simp only[ir] at p;obtain⟨⟨N,O⟩,R⟩:=p;have m:ao.dem=none:=by simpa using O
  split at R
  ·rename_i e Z
   have hz:aY P e=some z:=by simpa using R
   rw[m];obtain⟨rx,ry,H,X,V⟩:=iC (M:=x) (bi:=hi) (by simpa using N);rw[B,H] at b;simp only[ju,kh,kf,kf0] at b
   split at b
   ·rename_i q
    rw[q] at b ⊢;obtain⟨⟨v',sh'⟩,K,C⟩:=jf.1 b;simp only[jg] at C;obtain⟨rfl,rfl⟩:=C;exact ZT L hd v X V Z hz K
   ·cases b
  ·cases R
 ·cases p
end
def okO(P:Program)(nt:Nat)(ops:Array Oper)(o:Oper)(ao:AOper):Bool:=
 ao.dst==o.dst&&(match o.dst with | none=>true | some d=>decide (d<nt)) &&
 (match o.guard,ao.guard with
  | none,none=>true
  | some (j,b),some (s,a)=>b==a&&(ops[j]?).bind (·.dst)==some s&&decide (s<nt)
  | _,_=>false)&&okK P o ao
def mR(P:Program)(nt:Nat)(ops:Array Oper):List Oper->List AOper->Bool
 | [],[]=>true
 | o::os,ao::a=>okO P nt ops o ao&&mR P nt ops os a
 | _,_=>false
section
variable{P:Program}{E:Env}{g g':Gh}{σ σ' σ1:AS}{a:Act}{w w':World}{o:Oper}{ao:AOper}{Q:Exit->Act->World->Prop}{ops:Array Oper}{G:aP}
def H9(n:Sim E g σ a w)(e:okO P E.nt ops o ao=true):
  (fY σ.fr ao.guard=some true->Region.wanted o (yielded ops a.tmps)=true)/\(fY σ.fr ao.guard=some false->Region.wanted o (yielded ops a.tmps)=false):=by
 unfold okO at e;simp only[ir] at e;obtain⟨⟨_,h⟩,_⟩:=e;unfold Region.wanted
 split at h
 ·rename_i i k
  rw[i,k];simp [fY]
 ·rename_i j b s p i k
  simp only[ir,jo] at h;obtain⟨⟨q,r⟩,u⟩:=h;have x:b=p:=by simpa using q
  subst x;have l:(ops[j]?).bind (·.dst)=some s:=by simpa using r
  rw[i,k];have d:=n.slots s;have f:s<a.tmps.size:=by rw[n.size];exact u
  have m:a.tmps.getD s undef=a.tmps[s]:=by simp [mo,f]
  rw[m] at d;simp only[fY,yielded,l,jk,ac1 f];generalize y:σ.fr s=v at d
  cases v<;>simp only[reduceCtorEq,false_implies,ab3,jc]<;>try exact⟨trivial,trivial⟩
  ·have:a.tmps[s]=undef:=d
   rw[this];exact⟨trivial,λ_=>rfl⟩
  ·rename_i c
   have:a.tmps[s]=.bool c:=d
   rw[this];exact⟨λh=>by simpa using h,λh=>by simpa using h⟩
 ·cases h
def sA(r:fK P G)(i:Sim E g σ a w)(c:okO P E.nt ops o ao=true)(h:cM G ao σ=some σ'):
  if Region.wanted o (yielded ops a.tmps)=true then o.wp P a w (aS E σ') Q else aS E σ' (a.put o.dst undef) w:=by
 obtain⟨l,n⟩:=H9 (ops:=ops) i c;unfold okO at c;simp only[ir] at c;obtain⟨⟨⟨p,k⟩,_⟩,q⟩:=c;have b:ao.dst=o.dst:=by simpa using p
 have hd:∀ d,o.dst=some d->d<E.nt:=by
  intro d hd;rw[hd] at k;simpa using k
 have f:fY σ.fr ao.guard=some true\/fY σ.fr ao.guard=some false:=by
  unfold cM at h
  split at h
  ·rename_i e;exact .inl e
  ·rename_i e;exact .inr e
  ·cases h
 rcases f with hg | hg
 ·rw[iw (l hg)]
  obtain⟨v,m,s,rfl⟩:=ZJ h hg;rw[b];exact K3 r i hd b q s
 ·rw[ie (by rw[n hg];simp)]
  have:σ'=put σ ao.dst .undef:=by
   unfold cM at h;rw[hg] at h;simpa using h.symm
  subst this;rw[b];cases j:o.dst with
  | none=>exact⟨g,i⟩
  | some d=>exact⟨g,i.put_ (hd d j) rfl⟩
def sK(h:fK P G):∀ {os:List Oper} {d:List AOper} {σ:AS} {a:Act} {w:World},mR P E.nt ops os d=true->aS E σ a w->dF G d σ=some σ' ->
  (∀ a w,aS E σ' a w->Q .normal a w)->wpList P ops Q os a w
 | [],[],σ,a,w,_,i,e,f=>by
  simp only[dF,jc] at e;subst e;exact f a w i
 | o::os,ao::d,σ,a,w,b,⟨g,m⟩,e,f=>by
  simp only[mR,ir] at b;simp only[dF] at e;obtain⟨σ1,l,k⟩:=jj.1 e;have c:=sA (Q:=Q) h m b.1 l;unfold wpList;split
  ·rename_i j
   rw[iw j] at c;exact .inl (ah5 (λa w i=>sK h b.2 i k f) c)
  ·rename_i j
   rw[ie j] at c;exact sK h b.2 c k f
 | [],_::_,_,_,_,b,_,_,_=>by simp [mR] at b
 | _::_,[],_,_,_,b,_,_,_=>by simp [mR] at b
def roK:AK->Bool
 | .ld ..=>true
 | .b2s=>true
 | .callR _=>true
 | .lkp ..=>true
 | _=>false
def wml(o:AOper):ML:=if roK o.k then .none else o.ml
def RJ:List AR->List Nat
 | []=>[]
 | .t s::r=>s::RJ r
 | .c _::r=>RJ r
def rdS(o:AOper):List Nat:=RJ o.args++(match o.guard with | some (s,_)=>[s] | none=>[])
def wrS(o:AOper):List Nat:=o.dst.toList++o.dem.toList
def FE(l m:List Nat):Bool:=l.all λx=>!m.contains x
def AC(w r:ML):Bool:=w==.none||w != r
def K8(o p:AOper):Bool:=
 FE (wrS o) (rdS p)&&FE (wrS o) (wrS p)&&FE (wrS p) (rdS o)&&AC (wml o) p.ml&&AC (wml p) o.ml
def N5(o p:AOper):Bool:=
 (match o.k,p.k with | .ldo,.ld ..=>true | _,_=>false)&&o.ml==.sh&&p.ml==.sh&&FE (wrS o) (rdS p)&&FE (wrS o) (wrS p)&&FE (wrS p) (rdS o)
def xN(o p:AOper):Bool:=K8 o p||N5 o p||N5 p o
def dec(G:aP)(o:AOper)(σ:AS):Option (Option (AV×MV)):=
 match fY σ.fr o.guard with
 | some true=>(kf G (o.dst.getD 0) o.ml o.k (o.args.map (ev σ.fr)) (rdm σ o.ml)).map some
 | some false=>some none
 | none=>none
def eff(o:AOper)(out:Option (AV×MV))(σ:AS):AS:=
 match out with
 | some (v,m)=>put (dT (wrm σ m (wml o)) o.dem) o.dst v
 | none=>put σ o.dst .undef
def LR(h:jO G cf Y bh dy=some (bv,m')):m'=dy:=by
 unfold jO at h
 split at h
 ·obtain⟨a,_,h⟩:=jj.1 h
  split at h
  ·obtain⟨r,_,h⟩:=jj.1 h
   split at h
   ·simp only[jc,jg] at h;exact h.2.symm
   ·cases h
  ·cases h
 ·cases h
def nu{ez:AK}(a:roK ez=true)(h:kf G n cf ez f dy=some (bv,m')):m'=dy:=by
 cases ez<;>simp [roK] at a
 ·match f,h with
  | [x],h =>
   simp only[kf,kf0] at h
   split at h
   ·split at h
    ·obtain⟨c,_,h⟩:=jj.1 h
     obtain⟨_,_,h⟩:=jf.1 h;simp only[jg] at h;exact h.2.symm
    ·cases h
   ·split at h
    ·obtain⟨c,_,h⟩:=jj.1 h
     obtain⟨_,_,h⟩:=jf.1 h;simp only[jg] at h;exact h.2.symm
    ·cases h
   ·obtain⟨_,_,h⟩:=jf.1 h
    simp only[jg] at h;exact h.2.symm
   ·cases h
  | [],h=>simp [kf,kf0] at h
  | _::_::_,h=>simp [kf,kf0] at h
 ·exact LR h
 ·match f,h with
  | [x],h =>
   simp only[kf,kf0] at h
   split at h
   ·split at h
    ·obtain⟨_,_,h⟩:=jf.1 h
     simp only[jg] at h;exact h.2.symm
    ·cases h
   ·split at h
    ·obtain⟨c,_,h⟩:=jj.1 h
     obtain⟨_,_,h⟩:=jf.1 h;simp only[jg] at h;exact h.2.symm
    ·cases h
   ·cases h
  | [],h=>simp [kf,kf0] at h
  | _::_::_,h=>simp [kf,kf0] at h
 ·match f,h with
  | [.mp o,ez],h =>
   simp only[kf,kf0] at h
   split at h
   ·obtain⟨c,_,h⟩:=jj.1 h
    obtain⟨c,_,h⟩:=jj.1 h;obtain⟨_,_,h⟩:=jf.1 h;simp only[jg] at h;exact h.2.symm
   ·cases h
  | [],h=>simp [kf,kf0] at h
  | [_],h=>simp [kf,kf0] at h
  | _::_::_::_,h=>simp [kf,kf0] at h
  | [x,ez],h =>
   cases x<;>simp only[kf,kf0,reduceCtorEq] at h
   split at h
   ·obtain⟨c,_,h⟩:=jj.1 h
    obtain⟨c,_,h⟩:=jj.1 h;obtain⟨_,_,h⟩:=jf.1 h;simp only[jg] at h;exact h.2.symm
   ·cases h
theorem ME(σ:AS)(ml:ML):wrm σ (rdm σ ml) ml=σ:=by
 cases ml with
 | none=>rfl
 | sh=>rfl
 | lo s =>
  show { σ with lo:=upd σ.lo s (σ.lo s) }=σ
  have:upd σ.lo s (σ.lo s)=σ.lo:=by funext t;unfold upd;split<;>simp_all
  rw[this]
def hU(o:AOper)(σ:AS):cM G o σ=(dec G o σ).map (eff o · σ):=by
 unfold cM dec;cases hg:fY σ.fr o.guard with
 | none=>rfl
 | some b =>
  cases b with
  | false=>rfl
  | true =>
   simp only;cases a:kf G (o.dst.getD 0) o.ml o.k (o.args.map (ev σ.fr)) (rdm σ o.ml) with
   | none=>rfl
   | some r =>
    obtain⟨v,m⟩:=r;simp only[jq,eff,wml];split
    ·rename_i c
     rw[nu c a,ME];rfl
    ·rfl
def pT{r m:List Nat}(h:FE r m=true)(a:n∈r):n ∉ m:=by
 unfold FE at h;rw[kx] at h
 have:=h n a
 simpa using this
def pS(o:AOper)(out:Option (AV×MV))(σ:AS)(t:Nat)(b:t ∉ wrS o):(eff o out σ).fr t=σ.fr t:=by
 have c:o.dst≠some t:=λe=>b (by simp [wrS,e])
 have f:o.dem≠some t:=λe=>b (by simp [wrS,e])
 have a:∀ (σ:AS) (v:AV),(put σ o.dst v).fr t=σ.fr t:=by
  intro σ v;cases hd:o.dst with
  | none=>rfl
  | some d=>simp only[put,upd];rw[ie (λe=>c (by rw[hd,e]))]
 have h:∀ (σ:AS),(dT σ o.dem).fr t=σ.fr t:=by
  intro σ;cases hd:o.dem with
  | none=>rfl
  | some d=>simp only[dT,upd];rw[ie (λe=>f (by rw[hd,e]))]
 have g:∀ (m:MV) (ml:ML),(wrm σ m ml).fr=σ.fr:=λm ml=>by cases ml<;>rfl
 cases out with
 | none=>exact a _ _
 | some r =>
  obtain⟨v,m⟩:=r;show (put (dT (wrm σ m (wml o)) o.dem) o.dst v).fr t=_;rw[a,h,g]
def l9:(put X dj h).lo=X.lo/\(put X dj h).sh=X.sh:=by cases dj<;>exact⟨rfl,rfl⟩
def yV:(dT X dj).lo=X.lo/\(dT X dj).sh=X.sh:=by cases dj<;>exact⟨rfl,rfl⟩
def FC(o:AOper)(go:Option (AV×MV))(σ:AS)(h:AC (wml o) cf=true):rdm (eff o go σ) cf=rdm σ cf:=by
 have a:∀ σ1 σ2:AS,σ1.lo=σ2.lo->σ1.sh=σ2.sh->rdm σ1 cf=rdm σ2 cf:=by
  intro σ1 σ2 d e
  cases cf<;>simp [rdm,d,e]
 cases go with
 | none=>exact a _ _ (l9).1 (l9).2
 | some r =>
  obtain⟨v,m⟩:=r
  have:rdm (eff o (some (v,m)) σ) cf=rdm (wrm σ m (wml o)) cf:=by
   refine a _ _ ?_ ?_
   ·show (put (dT (wrm σ m (wml o)) o.dem) o.dst v).lo=_
    rw[(l9).1,(yV).1]
   ·show (put (dT (wrm σ m (wml o)) o.dem) o.dst v).sh=_
    rw[(l9).2,(yV).2]
  rw[this];unfold AC at h;cases c:wml o with
  | none=>rfl
  | sh =>
   rw[c] at h
   cases cf<;>first | rfl | simp at h
  | lo s =>
   rw[c] at h
   cases cf with
   | none=>rfl
   | sh=>rfl
   | lo f =>
    have b:f≠s:=by rintro rfl;simp at h
    simp [rdm,wrm,upd,b]
def HL(h:AR.t n∈bq):n∈RJ bq:=by
 induction bq with
 | nil=>cases h
 | cons r rs a =>
  cases r with
  | t x =>
   simp only[RJ,la];rcases la.1 h with e | e
   ·cases e;exact .inl rfl
   ·exact .inr (a e)
  | c x =>
   simp only[RJ];rcases la.1 h with e | e
   ·cases e
   ·exact a e
def qU(o:AOper)(σ:AS)(d:∀ t∈rdS o,X.fr t=σ.fr t)(f:rdm X o.ml=rdm σ o.ml):dec G o X=dec G o σ:=by
 have hg:fY X.fr o.guard=fY σ.fr o.guard:=by
  cases a:o.guard with
  | none=>rfl
  | some p =>
   obtain⟨s,b⟩:=p
   have:=d s (by simp [rdS,a])
   simp [fY,this]
 have e:o.args.map (ev X.fr)=o.args.map (ev σ.fr):=by
  apply ad5;intro r g
  cases r with
  | c x=>rfl
  | t s=>exact d s (by simp [rdS,HL g])
 unfold dec;rw[hg,e,f]
def fLo(o:AOper):Option (AV×MV)->(Nat->Option (List AV))->(Nat->Option (List AV))
 | some (_,m),l=>(match wml o with | .lo s=>upd l s m.1 | _=>l)
 | none,l=>l
def fSh(o:AOper):Option (AV×MV)->LL->LL
 | some (_,m),l=>(match wml o with | .sh=>m.2 | _=>l)
 | none,l=>l
def kX(o:AOper)(x:Option (AV×MV))(σ:AS):(eff o x σ).lo=fLo o x σ.lo/\(eff o x σ).sh=fSh o x σ.sh:=by
 cases x with
 | none=>exact l9
 | some r =>
  obtain⟨v,m⟩:=r;have a:(eff o (some (v,m)) σ).lo=(wrm σ m (wml o)).lo:=by
   show (put (dT (wrm σ m (wml o)) o.dem) o.dst v).lo=_;rw[(l9).1,(yV).1]
  have b:(eff o (some (v,m)) σ).sh=(wrm σ m (wml o)).sh:=by
   show (put (dT (wrm σ m (wml o)) o.dem) o.dst v).sh=_;rw[(l9).2,(yV).2]
  rw[a,b];unfold fLo fSh
  cases wml o<;>exact⟨rfl,rfl⟩
def IQ(o p:AOper)(go g:Option (AV×MV))(σ:AS)(l:FE (wrS o) (wrS p)=true)(i:wml o=.none\/wml p=.none\/wml o≠wml p):
  eff p g (eff o go σ)=eff o go (eff p g σ):=by
 have j:∀ (o:AOper) (go:Option (AV×MV)) (σ τ:AS) (t:Nat),σ.fr t=τ.fr t->(eff o go σ).fr t=(eff o go τ).fr t:=by
  intro o go σ τ t h;have x:∀ (σ:AS) (m:MV) (ml:ML),(wrm σ m ml).fr=σ.fr:=λσ m ml=>by cases ml<;>rfl
  have hd:∀ (σ τ:AS) (d:Option Nat),σ.fr t=τ.fr t->(dT σ d).fr t=(dT τ d).fr t:=by
   intro σ τ d h
   cases d with
   | none=>exact h
   | some d =>
    simp only[dT,upd];split
    ·rename_i e;subst e;rw[h]
    ·exact h
  have k:∀ (σ τ:AS) (d:Option Nat) (v:AV),σ.fr t=τ.fr t->(put σ d v).fr t=(put τ d v).fr t:=by
   intro σ τ d v h
   cases d with
   | none=>exact h
   | some d =>
    simp only[put,upd];split
    ·rfl
    ·exact h
  cases go with
  | none=>exact k _ _ _ _ h
  | some r =>
   obtain⟨v,m⟩:=r;exact k _ _ _ _ (hd _ _ _ (by rw[x,x];exact h))
 have ext:∀ a b:AS,a.fr=b.fr->a.lo=b.lo->a.sh=b.sh->a=b:=by
  rintro ⟨_,_,_⟩ ⟨_,_,_⟩ l i w
  simp only at l i w;rw[l,i,w]
 apply ext
 ·funext t
  by_cases q:t∈wrS o
  ·have k:t ∉ wrS p:=pT l q
   rw[pS p g _ t k];exact j o go _ _ t (pS p g σ t k).symm
  ·rw[pS o go _ t q]
   exact j p g _ _ t (pS o go σ t q)
 ·rw[(kX p g _).1,(kX o go σ).1,(kX o go _).1,(kX p g σ).1]
  rcases go with _ | ⟨_,m⟩<;>rcases g with _ | ⟨_,m'⟩<;>try rfl
  simp only[fLo];cases c:wml o<;>cases f:wml p<;>try rfl
  rename_i s y;have n:s≠y:=by
   rintro rfl
   rcases i with h | h | h
   ·rw[c] at h;cases h
   ·rw[f] at h;cases h
   ·rw[c,f] at h;exact h rfl
  funext t
  simp only[upd];by_cases u:t=s
  ·subst u;simp [n]
  ·simp [u]
 ·rw[(kX p g _).2,(kX o go σ).2,(kX o go _).2,(kX p g σ).2]
  rcases go with _ | ⟨_,m⟩<;>rcases g with _ | ⟨_,m'⟩<;>try rfl
  simp only[fSh];cases c:wml o<;>cases f:wml p<;>try rfl
  rcases i with h | h | h
  ·rw[c] at h;cases h
  ·rw[f] at h;cases h
  ·rw[c,f] at h;exact absurd rfl h
def J6(h:K8 ct cu=true):(cM G ct X).bind (cM G cu)=(cM G cu X).bind (cM G ct):=by
 unfold K8 at h;simp only[ir] at h;obtain⟨⟨⟨⟨m,n⟩,o⟩,c⟩,p⟩:=h;have l:∀ x,dec G cu (eff ct x X)=dec G cu X:=λx =>
  qU cu X (λt f=>pS ct x X t (λg=>pT m g f)) (FC ct x X c)
 have k:∀ y,dec G ct (eff cu y X)=dec G ct X:=λy =>
  qU ct X (λt f=>pS cu y X t (λi=>pT o i f)) (FC cu y X p)
 have r:wml ct=.none\/wml cu=.none\/wml ct≠wml cu:=by
  by_cases e:wml ct=.none
  ·exact .inl e
  ·by_cases j:wml cu=.none
   ·exact .inr (.inl j)
   ·refine .inr (.inr ?_)
    have d:wml cu=cu.ml:=by
     unfold wml;split
     ·rename_i q;exact absurd (by simp [wml,q]) j
     ·rfl
    rw[d];unfold AC at c;simp only[yb,Lh,ao5,ad6] at c;rcases c with h | h
    ·exact absurd h e
    ·exact h
 rw[hU ct X,hU cu X];cases b:dec G ct X with
 | none =>
  cases a:dec G cu X with
  | none=>rfl
  | some y=>simp only[jq,wn,jk,ve,hU,k,b]
 | some x =>
  cases a:dec G cu X with
  | none=>simp only[jq,wn,jk,ve,hU,l,a]
  | some y =>
   simp only[jq,jk,hU,l,k,b,a];rw[IQ ct cu x y X n r]
def lf(c:f[n]?=some bv)(hd:aJ fx=aJ bv):(f.set n fx).map aJ=f.map aJ:=by
 rw[am8,hd];apply ag3;intro j;rw[am7];split
 ·rename_i h
  subst h;obtain⟨a,b⟩:=jh.1 c;simp [a,b]
 ·rfl
def nw(b:f[q]?=some (.sl .own v bd)):ldC d j n (f.set q (.sl .no v bd))=ldC d j n f:=by
 have g:=lf (fx:=.sl .no v bd) b rfl;have key:∀ c:List AV,ldC true j n c=if (((c.map aJ).drop j).take n).length=n/\(((c.map aJ).drop j).take n).all aQ=true then some (.agg (((c.map aJ).drop j).take n)) else none:=by
  intro c;simp only[ldC,kp,<- map_drop,<- ao3,zt,all_map,Function.comp_def]
 cases d with
 | true=>rw[key,key,g]
 | false =>
  simp only[ldC,jl,kz];by_cases h:q=j
  ·subst h
   have a:=(jh.1 b).1;have e:(f.set q (.sl .no v bd))[q]?=some (.sl .no v bd):=by simp [a]
   rw[e,b];rfl
  ·rw[xm h]
def By{U:Bool}{bw:LL}(hi:bd[q]?=some f)(d:f[v]?=some (.sl .own R bw))(a:Option (List AV)):
  (kf0 j .sh (.ld U n) bh (a,bd.set q (f.set v (.sl .no R bw)))).map (λr=>r.1)=(kf0 j .sh (.ld U n) bh (a,bd)).map (λr=>r.1):=by
 match bh with
 | []=>rfl
 | _::_::_=>rfl
 | [x] =>
  cases x<;>try rfl
  ·rename_i o off
   simp only[kf0,kp];rw[am7];split
   ·rename_i h
    subst h;have b:=(jh.1 hi).1;rw[iw b,hi];simp only[jk,nw d,ac4,Function.comp_def]
   ·cases bd[o]? with
    | none=>rfl
    | some c=>simp only[jk,ac4,Function.comp_def]
  ·simp only[kf0,ac4,Function.comp_def]
def H2(h:N5 ct cu=true)(σ:AS):(cM G ct σ).bind (cM G cu)=(cM G cu σ).bind (cM G ct):=by
 unfold N5 at h;simp only[ir,Lh] at h;obtain⟨⟨⟨⟨⟨R,S⟩,T⟩,U⟩,V⟩,Y⟩:=h;have I:ct.k=.ldo/\∃ agg n,cu.k=.ld agg n:=by
  split at R
  ·rename_i a b;exact⟨a,_,_,b⟩
  ·cases R
 obtain⟨w,agg,n,A⟩:=I;have o:wml cu=.none:=by simp [wml,A,roK]
 have C:∀ y,dec G ct (eff cu y σ)=dec G ct σ:=λy =>
  qU ct σ (λt K=>pS cu y σ t (λM=>pT Y M K)) (FC cu y σ (by rw[o];rfl))
 have u:∀ v m m' ρ,eff cu (some (v,m)) ρ=eff cu (some (v,m')) ρ:=by
  intro v m m' ρ;simp only[eff,o];rfl
 rw[hU ct σ,hU cu σ];cases d:dec G ct σ with
 | none =>
  cases F:dec G cu σ with
  | none=>rfl
  | some y=>simp only[jq,wn,jk,ve,hU,C,d]
 | some x =>
  have key:∀ ρ,(dec G cu (eff ct x σ)).map (eff cu · ρ)=(dec G cu σ).map (eff cu · ρ):=by
   intro ρ;have j:∀ t∈rdS cu,(eff ct x σ).fr t=σ.fr t:=λt K=>pS ct x σ t (λL=>pT U L K)
   cases x with
   | none =>
    rw[qU cu σ j]
    have:=l9 (X:=σ) (dj:=ct.dst) (h:=.undef)
    rw[T];simp only[rdm];exact Prod.ext rfl this.2
   | some r =>
    obtain⟨v,m⟩:=r;have B:rdm (eff ct (some (v,m)) σ) .sh=(none,m.2):=by
     simp only[rdm];refine Prod.ext rfl ?_;have N:wml ct=.sh:=by simp [wml,w,roK,S]
     rw[(kX ct _ σ).2];simp only[fSh,N]
    have J:m.2=σ.sh\/∃ i k cells z l,σ.sh[i]?=some cells/\cells[k]?=some (.sl .own z l)/\m.2=σ.sh.set i (cells.set k (.sl .no z l)):=by
     unfold dec at d
     split at d
     ·rw[w,S] at d
      simp only[kf] at d;obtain⟨q,g,e⟩:=jf.1 d;simp only[jc] at e;subst e;generalize ct.args.map (ev σ.fr)=xs at g
      match xs,g with
      | [],g=>cases g
      | _::_::_,g=>simp [kf0] at g
      | [x],g =>
       cases x<;>simp only[kf0,reduceCtorEq] at g
       rename_i i k;simp only[kp,rdm] at g;obtain⟨cells,O,D⟩:=jj.1 g
       split at D
       ·obtain⟨y,P,p⟩:=jj.1 D
        split at p
        ·rename_i z l
         simp only[jc,jg] at p
         right
         exact⟨i,k,cells,z,l,O,P,by rw[<- p.2]⟩
        ·simp only[jc,jg] at p
         left;rw[<- p.2]
        ·cases p
       ·cases D
     ·cases d
     ·cases d
    have hg:fY (eff ct (some (v,m)) σ).fr cu.guard=fY σ.fr cu.guard:=by
     cases H:cu.guard with
     | none=>rfl
     | some q =>
      obtain⟨s,b⟩:=q
      have:=j s (by simp [rdS,H])
      simp [fY,this]
    have Z:cu.args.map (ev (eff ct (some (v,m)) σ).fr)=cu.args.map (ev σ.fr):=by
     apply ad5;intro r hr
     cases r with
     | c x=>rfl
     | t s=>exact j s (by simp [rdS,HL hr])
    unfold dec;rw[hg,Z,T,B,A];cases av:fY σ.fr cu.guard with
    | none=>rfl
    | some b =>
     cases b with
     | false=>rfl
     | true =>
      simp only[kf];have f:(kf0 (cu.dst.getD 0) .sh (.ld agg n) (cu.args.map (ev σ.fr)) (none,m.2)).map (λr=>r.1)=(kf0 (cu.dst.getD 0) .sh (.ld agg n) (cu.args.map (ev σ.fr)) (rdm σ .sh)).map (λr=>r.1):=by
       rcases J with J | ⟨i,k,cells,z,l,O,D,P⟩
       ·rw[J];rfl
       ·rw[P];exact By O D _
      cases Q:kf0 (cu.dst.getD 0) .sh (.ld agg n) (cu.args.map (ev σ.fr)) (none,m.2) with
      | none =>
       rw[Q] at f;cases E:kf0 (cu.dst.getD 0) .sh (.ld agg n) (cu.args.map (ev σ.fr)) (rdm σ .sh) with
       | none=>rfl
       | some r=>rw[E] at f;cases f
      | some r =>
       rw[Q] at f;cases E:kf0 (cu.dst.getD 0) .sh (.ld agg n) (cu.args.map (ev σ.fr)) (rdm σ .sh) with
       | none=>rw[E] at f;cases f
       | some r2 =>
        rw[E] at f;simp only[jq,jc] at f ⊢;obtain⟨v1,m1⟩:=r;obtain⟨v2,m2⟩:=r2;simp only[] at f;subst f;exact u _ _ _ _
  simp only[jq,jk,hU];rw[key];cases F:dec G cu σ with
  | none=>rfl
  | some y =>
   simp only[jq,jk,hU,C,d];rw[IQ ct cu x y σ V (.inr (.inl o))]
def CF(h:xN ct cu=true)(σ:AS):(cM G ct σ).bind (cM G cu)=(cM G cu σ).bind (cM G ct):=by
 unfold xN at h;simp only[yb] at h;rcases h with (h | h) | h
 ·exact J6 h (X:=σ)
 ·exact H2 h σ
 ·exact (H2 h σ).symm
end
end Go.Av
