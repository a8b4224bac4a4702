/- A part of the frame. No conditions. -/
import Derived.Test.YthnlilndompbaaaGreatDoorT1Ev8to11b
import Derived.Lib.ConvBytes
import Derived.Laws.BytesString
import Derived.Laws.MakeOwn
import Derived.MapKept
open List
set_option linter.all false
set_option maxRecDepth 100000
set_option maxHeartbeats 16000000
theorem jk:type_of% @Option.bind_some:=λ_ _=>rfl
def ac0:=@Array.getElem?_setIfInBounds_ne
def ad7:=@Nat.min_eq_left
def af3:=@List.append_eq_nil_iff
def aj4:=@List.length_set
def ao2:=@Array.getElem?_append_right
namespace Go.Av
variable{C ba:AR}{D k:Int}{I:Value}{J bj bx:TypeId}{K:List UInt8}{M bi ij:Operand}{O:IntKind}{R j n q z:Nat}{U d:Bool}{Z eo:Cx}{bd c:LL}{bf:Own}{bk:Array Value}{bp:TypeInfo}{bv fx h:AV}{cd:List Value}{dj:Option Nat}{du:Nat->Nat->Prop}{ea:TypeDesc}{eh:Option AV}{es:Array MapEntry}{f zero:List AV}{fw:Nat->Value->Nat->Nat->Prop}{gm:Nat×Nat}{kk r:List Nat}{lo:Option Operand}{lo':Option Value}
variable [Gtab]
open Go.RowKit
section
variable{P:Program}{E:Env}{g g':Gh}{σ σ1:AS}{a:Act}{w w':World}{o:Oper}{Q:Exit->Act->World->Prop}
def cL(h:bX f=true):f≠aO:=by
 rintro rfl;simp [bX,aO] at h
def Z6(hs:Sim E g σ a w)(hd:∀ d,o.dst=some d->d<E.nt)(Z:o.op=.load J M)(hx:okR M C=true)(ag:gL P J false 1=true)(he:ev σ.fr C=.ptr q R)(Y:σ.sh[q]?=some f)(F:bX f=true)(hc:f[R]?=some (.sl .own z bd)):
  o.wp P a w (aS E (put { σ with sh:=σ.sh.set q (f.set R (.sl .no z bd)) } o.dst (.sl .own z bd))) Q:=by
 have ar:=hs.rd hx he;have K:=cL F;have l:R<f.length:=(jh.1 hc).1;have ap:q<σ.sh.length:=(jh.1 Y).1;obtain⟨k1,k2,_⟩:=hs.shr q f Y K;obtain⟨O,ty,fz,h1,hz,h2,h3⟩:=k2 F;obtain⟨v,h4,T,h6⟩:=h3 R _ hc;have D:Sim E g { σ with sh:=σ.sh.set q (f.set R (.sl .no z bd)) } a w:=by
  refine hs.setObj Y K rfl (λ_ _=>rfl) rfl rfl rfl (λI av _=>⟨λ_=>⟨O,ty,fz,h1,hz,h2,λj y N=>?_⟩,?_⟩)
  ·by_cases H:R=j
   ·subst H
    rw[sp l] at N;cases N;exact⟨v,h4,aG.le I T⟩
   ·rw[xm H] at N
    obtain⟨u,h7,h8⟩:=h3 j y N;exact⟨u,h7,bO.mono I _ _ (λ_ _ _=>av _ _ _ _) h8⟩
  ·unfold p9
   split
   ·rename_i m hm
    exfalso;have U:(f.set R (.sl .no z bd))[R]?=some (.sl .no z bd):=by rw[sp l]
    rw[hm] at U
    cases R with
    | zero=>simp at U
    | succ k=>simp at U
   ·trivial
 have r:(execOp a.eval o).run P w=.ok (.value v) w:=by
  obtain⟨ha,_⟩:=lB ag;have e:=ar.2;have V:w.cell? ⟨g.β q,R,none⟩=some v:=by simp [World.cell?,h1];simpa using h4
  have e':a.eval M=.pointer (some ⟨g.β q,R,none⟩):=e;simp [execOp,Z,e',Instr.loadAt,Instr.sureAddr,loadVar,ha,V]
 have B:wP { σ with sh:=σ.sh.set q (f.set R (.sl .no z bd)) } (.cell q R):=by
  intro cells' z' l' G _ e
  have:(σ.sh.set q (f.set R (.sl .no z bd)))[q]?=some (f.set R (.sl .no z bd)):=sp ap
  rw[this] at G;cases G;rw[sp l] at e;cases e
 obtain⟨A,c,hv,p⟩:=h6;have a0:∀ b n,SS E g w b n->SS E g w b n/\w.cell? ⟨b,n,none⟩=w.cell? ⟨b,n,none⟩:=λ_ _ h=>⟨h,rfl⟩
 rcases p with p | ⟨b,s,ab,e1,S,e3,e4⟩
 ·exact cO D r λd X=>⟨hd d X,T,A,c,hv,.inl p⟩
 ·cases i:o.dst with
  | none =>
   have:=cO (o:=o) (P:=P) (Q:=Q) (h:=.sl .own z bd) D r (λd h=>by rw[i] at h;cases h)
   rwa [i] at this
  | some d =>
   obtain⟨L,x⟩:=D.turn (t':=.slot d) (k':=bd.length*z) (arr':=s) S e4 B (ji _) (λ_ _=>rfl);rw[setRow_self S] at L x
   have:=cO (o:=o) (P:=P) (Q:=Q) (h:=.sl .own z bd) L r (λd' h=>⟨hd d' h,by
    rw[i] at h;cases h
    exact⟨aG.le x T,A,c,hv,.inr ⟨b,s,ab,e1,S,e3,by simp [upd]⟩⟩⟩)
   rwa [i] at this
def Z7(l:Sim E g σ a w)(hd:∀ d,o.dst=some d->d<E.nt)(b:o.op=.load J M)(m:okR M C=true)(e:gL P J false 1=true)(i:ev σ.fr C=.ptr n j)(k:σ.sh[n]?=some f)(h:f[j]?=some (.sl .full q c)):
  o.wp P a w (aS E (put σ o.dst (.sl .full q c))) Q:=
 MR l hd b m e i k (by simp [ldC,h,ldV])
def ZQ(hs:Sim E g σ a w)(ar:o.op=.store J M bi)(L:o.dst=none)(hx:okR M C=true)(hy:okR bi ba=true)(ag:aY P J=some 1)(K:(∃ n,ba=.t n/\dj=some n)\/(∃ v,ba=.c v/\dj=none))(he:ev σ.fr C=.ptr n q)(hl:σ.sh[n]?=some f)(I:bX f=true)(p:q<f.length)(hv:ev σ.fr ba=.sl bf R bd):
  o.wp P a w (aS E (dT { σ with sh:=σ.sh.set n (f.set q (.sl bf R bd)) } dj)) Q:=by
 have ap:=hs.rd hx he;have O:=cL I;obtain⟨A,c,v1,v2,v3,v4⟩:=hs.rdSl hy hv;have l:aG (SS E g w) w (.sl .no R bd) (a.eval bi):=by
  rw[v1];simp only[aG];exact⟨A,c,rfl,v2,by simp,by simp,v4⟩
 have av:(a.eval bi).oneCell'=true:=(d8 (Z:=cx E g σ w) l).1;have r:(a.eval bi).cells=#[a.eval bi]:=by rw[v1];rfl
 have D:∃ h,Sim E h (dT σ dj) a w/\h.β=g.β/\h.bs=g.bs/\Cx.le (cx E g σ w) (cx E h (dT σ dj) w)/\bO (cx E h (dT σ dj) w) (d9 h.kd w (.cell n q)) (.sl bf R bd) (a.eval bi):=by
  have k:=hs.dem_ dj;have s:cx E g (dT σ dj) w=cx E g σ w:=by cases dj<;>rfl
  cases bf with
  | no=>exact⟨g,k,rfl,rfl,by rw[s];exact Cx.le.refl _,l⟩
  | full =>
   refine⟨g,k,rfl,rfl,by rw[s];exact Cx.le.refl _,?_⟩;show aG _ _ (.sl .full R bd) _;rw[v1];simp only[aG];exact⟨A,c,rfl,v2,λ_=>v3 rfl,by simp,v4⟩
  | own =>
   obtain⟨s1,i,A',c',U,F⟩:=NJ hs hy K hv;rcases F with F | ⟨b,d,ty,X,G,h5,h6⟩
   ·exact⟨g,k,rfl,rfl,by rw[s];exact Cx.le.refl _,l,A',c',U,.inl F⟩
   ·subst i
    have x:wP (dT σ (some s1)) (.slot s1):=by
     intro z' l' e;simp only[dT,upd,kp] at e
     have:=pz aJ e
     rw[nO,e] at this;simp [aJ] at this
    obtain⟨k1,V⟩:=k.turn (t':=.cell n q) (k':=bd.length*R) (arr':=d) G h6 x (ji _) (λ_ _=>rfl);rw[setRow_self G] at k1 V;refine⟨_,k1,rfl,rfl,V,aG.le V l,A',c',U,.inr ⟨b,d,ty,X,G,h5,by simp [upd]⟩⟩
 obtain⟨h,i,hβ,ab,a0,S⟩:=D;have N:(dT σ dj).sh[n]?=some f:=by rw[(by cases dj<;>rfl:(dT σ dj).sh=σ.sh)];exact hl
 obtain⟨k1,V,_⟩:=i.shr n f N O;obtain⟨d,ty,fz,h1,hz,F,X⟩:=V I;have H:q<d.size:=by
  obtain⟨u,G,_⟩:=X q _ (ii p);exact (kw.1 G).1
 have e1:a.eval M=.pointer (some ⟨h.β n,q,none⟩):=by rw[hβ];exact ap.2
 refine D1 ar ag L e1 h1 hz (by rw[r];rfl) (by omega) (by rw[r];simpa using av) ?_;have T:(d.toList.take q++(a.eval bi).cells.toList++d.toList.drop (q+1)).toArray=d.setIfInBounds q (a.eval bi):=by
  rw[r];apply ag1;rw[aj8];show d.toList.take q++[a.eval bi]++d.toList.drop (q+1)=_;rw[set_eq_take_append_cons_drop,iw (by simpa using H)];simp
 rw[T]
 have m:=i.setShr (cells':=f.set q (.sl bf R bd)) (arr':=d.setIfInBounds q (a.eval bi)) N O h1 hz (by simp) F (λj y' Y=>by
  by_cases y:q=j
  ·subst y
   rw[sp p] at Y;cases Y;exact⟨a.eval bi,by simp [H],S⟩
  ·rw[xm y] at Y
   obtain⟨u,h7,h8⟩:=X j y' Y
   exact⟨u,by rw[ac0 y];exact h7,h8⟩)
 have B:({ (dT σ dj) with sh:=(dT σ dj).sh.set n (f.set q (.sl bf R bd)) }:AS)=dT { σ with sh:=σ.sh.set n (f.set q (.sl bf R bd)) } dj:=by cases dj<;>rfl
 rw[B] at m;exact⟨h,m⟩
def QZ(h:wN P J O=true):P.underlying J=some (.int O):=by
 unfold wN at h
 split at h
 ·rename_i a;rw[a];simp at h;rw[h]
 ·cases h
def wM(h:pN P J=true):P.underlying J=some .string:=by
 unfold pN at h
 split at h
 ·assumption
 ·cases h
def oE(h:iS P J=true):∃ e,P.underlying J=some (.slice e)/\P.underlying e=some (.int .u8):=by
 unfold iS at h
 split at h
 ·rename_i e a;exact⟨e,a,QZ h⟩
 ·cases h
open Lib in
def ZX(u:Sim E g σ a w)(hd:∀ d,o.dst=some d->d<E.nt)(s:o.op=.convert J bj M)(T:okR M C=true)(G:pN P J=true)(H:iS P bj=true)(O:ev σ.fr C=.str K):
  o.wp P a w (aS E (put { σ with sh:=σ.sh++[K.map λb=>.int .u8 (b.toNat:Int)] } o.dst (.ss σ.sh.length 0 K.length 1))) Q:=by
 obtain⟨b,F,x⟩:=u.rdStr T O;obtain⟨e,p,q⟩:=oE H;have v:b.size=K.length:=by rw[<- x];simp
 have B:b.size<=grownCap w b.size 0 e:=ai0 w _ _ _;have m:(bytesCells w e b).size=grownCap w b.size 0 e:=by simp [bytesCells];omega
 obtain⟨U,R⟩:=u.world (g':={ g with kd:=upd g.kd w.heap.size (.shr σ.sh.length) }) (w':=bytesWorld w e b) (by simp [bytesWorld,World.freeze];rfl) (by simp [bytesWorld,World.freeze]) (by simp [bytesWorld,World.freeze];rfl)
  (by rw[bytesWorld_size];omega) (λj k=>bytesWorld_at_old w e b j k) (λb N=>by simp [upd,ae8 N]) rfl rfl rfl
 have i:=U.addShr (b:=w.heap.size) (n:=2*(bytesCells w e b).size) (cells:=K.map λb=>.int .u8 (b.toNat:Int)) (by simp [upd]) u.hsize (by rw[bytesWorld_size];omega) (λf=>⟨λ_=>⟨_,e,_,bytesWorld_at_new w e b,.inr (ji _),⟨by omega,λh=>by omega⟩,λj y k=>?_⟩,?_⟩)
 ·refine cO i.1 (I:=.slice (some ⟨w.heap.size,0,none⟩) b.size (grownCap w b.size 0 e)) ?_ λd f=>⟨hd d f,?_⟩
  ·have:=run_convert_string_bytes (P:=P) w J bj e b (wM G) p q
   simp [execOp,s,F,this]
  ·refine⟨by simp [cx],grownCap w b.size 0 e,?_,by omega,?_,λh=>absurd rfl h⟩
   ·simp [cx,upd,v]
   ·simp [cx,upd,m]
 ·rw[aa5] at k
  obtain⟨c,A,rfl⟩:=jf.1 k;have S:j<K.length:=(jh.1 A).1;have r:j<b.size:=by omega
  refine⟨.int .u8 (c.toNat:Int),?_,rfl⟩;unfold bytesCells;rw[yv (by simpa using r)]
  have:b.data[j]?=some c:=by
   have L:b.data.toList[j]?=some c:=by rw[x];exact A
   simpa using L
  simp [this]
 ·unfold p9
  split
  ·rename_i l D
   cases K with
   | nil=>simp at D
   | cons M K=>simp at D
  ·trivial
def rO{S:Nat->Nat->Prop}:∀ {l:LL} {s:List UInt8} {vs:List Value},bH l=some s->aM (aG S w) l.flatten vs ->
  ∃ e:List Int,vs=e.map (Value.int .u8)/\e.map (λn=>UInt8.ofNat n.toNat)=s
 | [],s,vs,h,a=>by
  simp only[bH,jc] at h;subst h
  cases vs with
  | nil=>exact⟨[],rfl,rfl⟩
  | cons=>simp [aM] at a
 | [c]::r,s,vs,h,a=>by
  simp only[bH] at h
  split at h
  ·rename_i b bs d f
   cases h
   cases vs with
   | nil=>simp [aM] at a
   | cons v vs =>
    simp only[ag7,ko,kg] at a;obtain⟨e,g,i⟩:=rO f a.2;unfold sS at d
    split at d
    ·rename_i n
     cases d;have j:v=.int .u8 n:=a.1;subst j;exact⟨n::e,by simp [g],by simp [i]⟩
    ·cases d
  ·cases h
 | []::r,s,vs,h,a=>by simp [bH] at h
 | (_::_::_)::r,s,vs,h,a=>by simp [bH] at h
def AP(s:List UInt8):∀ (a:List Int) (r:ByteArray),(a.foldl (λr n=>r.push (UInt8.ofNat n.toNat)) r).data.toList=r.data.toList++a.map (λn=>UInt8.ofNat n.toNat)
 | [],r=>by simp
 | n::a,r=>by
  simp only[ac6,ju];rw[AP s a];simp [ByteArray.push]
def BC(F:Sim E g σ a w)(hd:∀ d,o.dst=some d->d<E.nt)(l:o.op=.convert J bj M)(p:pN P bj=true)(s:iS P J=true)
  {c:Nat}(A:a.eval M=.slice (some ⟨q,R,none⟩) n c)(C:bH bd=some K)(D:aM (aG du w) bd.flatten cd)(h:cd.length=n)
  (b:∀ j v,cd[j]?=some v->w.cell? ⟨q,R+j,none⟩=some v):
  o.wp P a w (aS E (put σ o.dst (.str K))) Q:=by
 obtain⟨e,i,k⟩:=oE s;obtain⟨m,u,x⟩:=rO C D;have f:=ac3 (P:=P) w ⟨q,R,none⟩ cd (λj v B=>by rw[dJ];exact b j v B);rw[h,u] at f;have y:=run_bytesToString (P:=P) w ⟨q,R,none⟩ n c m f;refine aI F hd (I:=.string (m.foldl (λr n=>r.push (UInt8.ofNat n.toNat)) ByteArray.empty)) ?_ rfl ⟨_,rfl,?_⟩
 ·have:=run_convert_bytes_string (P:=P) w J bj e (some ⟨q,R,none⟩) n c i k (wM p)
  simp [execOp,l,A,this,y]
 ·rw[AP K];simpa using x
def vI(h:bH []=some K):K=[]:=by simpa [bH] using h.symm
def am(m:Sim E g σ a w)(hd:∀ d,o.dst=some d->d<E.nt)(f:o.op=.convert J bj M)(x:okR M C=true)(n:pN P bj=true)(p:iS P J=true)(v:ev σ.fr C=.sl bf 1 bd)(r:bH bd=some K):
  o.wp P a w (aS E (put σ o.dst (.str K))) Q:=by
 obtain⟨A,c,h,F,_,i⟩:=m.rdSl x v;by_cases s:bd=[]
 ·subst s
  have:=vI r
  subst this;obtain⟨e,j,l⟩:=oE p;refine aI m hd (I:=.string .empty) ?_ rfl ⟨_,rfl,rfl⟩
  have:=run_convert_bytes_string (P:=P) w J bj e A 0 c j l (wM n)
  cases A with
  | none=>simp [execOp,f,h,this,Conv.bytesToString]
  | some ad =>
   have q:=run_bytesToString (P:=P) w ad 0 c [] rfl;simp only[foldl_nil] at q;simp [execOp,f,h,this,q]
 ·rcases i with i | ⟨b,k,rfl,u⟩
  ·exact absurd i s
  ·obtain⟨vs,y,B,D,_⟩:=qZ u
   exact BC m hd f n p h r B (by simpa using y) D
def TB(l:Sim E g σ a w)(hd:∀ d,o.dst=some d->d<E.nt)(k:o.op=.convert J bj M)(F:okR M C=true)(s:pN P bj=true)(u:iS P J=true)(A:ev σ.fr C=.ss q R n 1)(y:σ.sh[q]?=some f)(e:dE R n 1 f=some c)(x:bH c=some K):
  o.wp P a w (aS E (put σ o.dst (.str K))) Q:=by
 obtain⟨O,N,r,S,T⟩:=l.rd F A;by_cases m:n=0
 ·subst m
  have D:c=[]:=by
   unfold dE at e
   split at e
   ·cases e;rfl
   ·cases e
  subst D
  have:=vI x
  subst this;exact BC (du:=λ_ _=>True) (cd:=[]) (bd:=[]) l hd k s u r rfl trivial rfl (λj v B=>by simp at B)
 ·have b:R+n*1<=f.length/\((f.drop R).take (n*1)).all (λM=>aQ (aJ M))=true:=by
   unfold dE at e
   split at e
   ·rename_i h;exact h.2
   ·cases e
  have i:bX f=true:=by
   unfold bX;split
   ·simp at b;have:=b.1;have:R=0/\n=1:=by omega
    obtain⟨rfl,rfl⟩:=this;simp [aQ,aJ] at b
   ·simp at b;have:=b.1;have:R=0/\n=1:=by omega
    obtain⟨rfl,rfl⟩:=this;simp [aQ,aJ] at b
   ·rfl
  obtain⟨_,p,_⟩:=l.shr q f y (cL i);obtain⟨_,U,V,X,vs,G,H,I⟩:=qI (du:=λ_ _=>True) e (p i) (λL n h=>⟨trivial,rfl⟩) (λ_=>trivial);exact BC l hd k s u r x H (by simpa using G) I
end
section
variable{P:Program}{E:Env}{g g':Gh}{σ σ1:AS}{a:Act}{w w':World}{o:Oper}{Q:Exit->Act->World->Prop}
def kR(zero:List AV)(j:Nat)(x:AV)(h:(bB zero n)[j]?=some x):j<n*zero.length/\zero[j % zero.length]?=some x:=by
 have a:j<n*zero.length:=by
  have:=(jh.1 h).1
  rwa [eG] at this
 rw[o8 zero n j a] at h;exact⟨a,h⟩
def Z3(s:Sim E g σ a w)(hd:∀ d,o.dst=some d->d<E.nt)(r:o.op=.makeSlice J M bi)(hx:okR M C=true)(hy:okR bi ba=true)
  (hu:P.underlying J=some (.slice bj))(x:aY P bj=some q)(hz:jH P bj zero=true)(hi:P.info? bj=some bp)(X:bp.bytes=R)(U:ev σ.fr C=.int .i64 k)(V:ev σ.fr ba=.int .i64 D)(T:0<=k)(p:k<=D)(Y:D*R<=140737488355328)(B:D<=4611686018427387904)(av:0<q)(f:zero.length=q):
  o.wp P a w (aS E (put { σ with sh:=σ.sh++[bB zero k.toNat] } o.dst (.ss σ.sh.length 0 k.toNat q))) Q:=by
 obtain⟨i',i,H,q2,q3,q4⟩:=jG hz;rw[hi] at H;cases H;obtain⟨i2,K,L⟩:=dZ x;rw[hi] at K;cases K;have N:=s.rdNat hx U;have O:=s.rdNat hy V;have h:=kS (S:=SS E g w) (w:=w) q3;have y:i.cells.size=q:=by have:=h.length;simp at this;omega
 have c:(bp.bytes:Int)*D<=281474976710656:=by
  rw[X,Int.mul_comm];omega
 have n:=run_make (P:=P) w J bj bp i hu hi q2 .i64 .i64 k D T p c (by omega);have b:(madeCells i.cells (D.toNat*bp.size)).size=D.toNat*q:=by rw[L];exact size_madeCells _ _
 obtain⟨g',k1,k2,k3,G⟩:=s.newShr (cs:=madeCells i.cells (D.toNat*bp.size)) (e:=bj) (cells:=bB zero k.toNat) (λj u hj=>by
  obtain⟨F,j2⟩:=kR zero j u hj;obtain⟨v,j3,j4⟩:=h.get j2;rw[f] at F;have m:j<D.toNat*q:=sc F (ab0 _ (by omega));refine⟨v,?_,(d8 (Z:=cx E g σ w) j4).2⟩;have A:i.cells[j % zero.length]?=some v:=by simpa using j3
  rw[f] at A;unfold madeCells;rw[L];simp only[am5,Array.getElem?_range,m,kp,jq,jc]
  rw[y,getElem!_def,A])
 refine cO k1 (I:=.slice (some ⟨w.heap.size,0,none⟩) k.toNat D.toNat) ?_ λd l=>⟨hd d l,?_⟩
 ·simp [execOp,r,N,O,n]
 ·refine⟨by simp [cx],D.toNat,?_,by omega,?_⟩
  ·simp [cx,k3]
  ·exact tQ (by simp only[cx,G,b];omega) (by simp only[cx,G,b];omega)
def fN:(Builtin.zeroCells bk n).size=n*bk.size:=by simp [Builtin.zeroCells]
def ac(k:Sim E g σ a w)(hd:∀ d,o.dst=some d->d<E.nt)(i:o.op=.index J M bi)(H:okR M C=true)(K:okR bi ba=true)
  (y:P.underlying J=some (.array n bj))(l:gL P bj U j=true)(B:ev σ.fr C=.agg f)(F:ev σ.fr ba=.int O D)(b:0<=D)(e:D<n)(N:f.length=n*j)(G:iW U (D.toNat*j) j f=some h):
  o.wp P a w (aS E (put σ o.dst h)) Q:=by
 obtain⟨cs,q,A⟩:=k.rd H B;have r:=k.rdNat K F;obtain⟨v,x⟩:=lB l;obtain⟨L,c,s⟩:=v7 (Z:=cx E g σ w) G ((A.drop (D.toNat*j)).take j);rcases c with ⟨rfl,c⟩ | ⟨rfl,u,m,c⟩
 ·refine aI k hd (I:=.agg (cs.extract (D.toNat*j) (D.toNat*j+j))) ?_ s ?_
  ·simp [execOp,i,q,r,Instr.index,asIntOf,ke y,asAgg,b,e,part,v,x]
  ·have:((cs.toList.drop (D.toNat*j)).take j).toArray=cs.extract (D.toNat*j) (D.toNat*j+j):=by
    apply ag1;simp [extract_eq_take_drop]
   rw[this] at c;exact c
 ·have p:cs[D.toNat*j]?=some u:=by
   have b:((cs.toList.drop (D.toNat*j)).take j)[0]?=some u:=by rw[m];rfl
   rw[Vz] at b
   split at b
   ·rw[tb] at b;simpa using b
   ·cases b
  refine aI k hd (I:=u) ?_ s c;simp [execOp,i,q,r,Instr.index,asIntOf,ke y,asAgg,b,e,part,v,x,p]
end
section
variable{P:Program}{E:Env}{g g':Gh}{σ σ1:AS}{a:Act}{w w':World}{o:Oper}{Q:Exit->Act->World->Prop}
def Sim.moveObj(h:Sim E g σ a w){i:Nat}{cells:List AV}(hi:σ.sh[i]?=some cells)(L:bX cells=true)(O:cells.all iE=true):
  Sim E { g with β:=upd g.β σ.sh.length (g.β i),bs:=upd g.bs σ.sh.length (g.bs i),kd:=upd g.kd (g.β i) (.shr σ.sh.length) } { σ with sh:=σ.sh.set i aO++[cells] } a w /\
  Cx.le (cx E g σ w) (cx E { g with β:=upd g.β σ.sh.length (g.β i),bs:=upd g.bs σ.sh.length (g.bs i),kd:=upd g.kd (g.β i) (.shr σ.sh.length) } { σ with sh:=σ.sh.set i aO++[cells] } w):=by
 have p:i<σ.sh.length:=(jh.1 hi).1;obtain⟨V,k2⟩:=h.shr i cells hi (cL L);have m:∀ b,b≠g.β i->upd g.kd (g.β i) (.shr σ.sh.length) b=g.kd b:=λb hb=>by simp [upd,hb]
 have q:∀ j,j<σ.sh.length->upd g.β σ.sh.length (g.β i) j=g.β j:=λj f=>by simp [upd,ae8 f]
 have H:∀ j,j<σ.sh.length->upd g.bs σ.sh.length (g.bs i) j=g.bs j:=λj f=>by simp [upd,ae8 f]
 have u:Cx.le (cx E g σ w) (cx E { g with β:=upd g.β σ.sh.length (g.β i),bs:=upd g.bs σ.sh.length (g.bs i),kd:=upd g.kd (g.β i) (.shr σ.sh.length) } { σ with sh:=σ.sh.set i aO++[cells] } w):=by
  refine⟨λb n C=>⟨?_,rfl⟩,by simp [cx],λj f=>q j f,λj f=>H j f,λs C=>⟨C,rfl⟩⟩;have N:b≠g.β i:=λe=>SS.nshr h C p e.symm
  rcases C with C | ⟨Z,h2,h3⟩ | ⟨Z,t,k,h2,h3⟩
  ·exact .inl C
  ·exact .inr (.inl ⟨Z,h2,(m b N).trans h3⟩)
  ·exact .inr (.inr ⟨Z,t,k,(m b N).trans h2,h3⟩)
 have P:∀ t v z n,d9 g.kd w t v z n->d9 (upd g.kd (g.β i) (.shr σ.sh.length)) w t v z n:=by
  rintro t v z n ⟨A,c,X,K⟩
  refine⟨A,c,X,?_⟩;rcases K with K | ⟨b,ar,tt,e3,e4,e5,Y⟩
  ·exact .inl K
  ·refine .inr ⟨b,ar,tt,e3,e4,e5,(m b ?_).trans Y⟩
   rintro rfl
   rw[V] at Y;cases Y
 have ap:=h.n0;refine⟨{ h with slots:=?_,shr:=?_,shr0:=?_,shr1:=?_,shrlt:=?_,shrk:=?_,loc:=?_,n0:=by simp;omega,o0:=?_,own0:=?_,dd:=?_ },u⟩
 ·intro t
  exact aV.mono u _ _ (λ_ _ _=>P _ _ _ _) (h.slots t)
 ·intro j c f hd
  rw[aa0] at f
  split at f
  ·rename_i d
   rw[aj4] at d;by_cases J:j=i
   ·subst J
    rw[sp p] at f;cases f;exact absurd rfl hd
   ·rw[xm (ad9 J)] at f
    obtain⟨y,R⟩:=h.shr j c f hd;show upd g.kd _ _ (upd g.β _ _ j)=_/\yB _ _ w (upd g.β _ _ j) (upd g.bs _ _ j) c;rw[q j d,H j d];refine⟨(m _ ?_).trans y,R.mono u rfl (λ_ _ _ _ _=>P _ _ _ _)⟩;intro e;rw[e,V] at y;injection y with y;exact J y.symm
  ·rename_i d
   rw[aj4] at d;have av:j=σ.sh.length:=by
    have:=(jh.1 f).1
    simp at this;omega
   subst av;simp at f;subst f;show upd g.kd _ _ (upd g.β _ _ _)=_/\yB _ _ w (upd g.β _ _ _) (upd g.bs _ _ _) cells;have X:upd g.β σ.sh.length (g.β i) σ.sh.length=g.β i:=by simp [upd]
   have K:upd g.bs σ.sh.length (g.bs i) σ.sh.length=g.bs i:=by simp [upd]
   rw[X,K];refine⟨by simp [upd],k2.mono u rfl (λj z l v hx ho=>?_)⟩;rw[kx] at O
   have:=O _ (ns.2 ⟨j,hx⟩)
   simp [iE] at this
 ·intro j f
  show upd g.β _ _ j=_/\upd g.bs _ _ j=_;rw[q j (by omega),H j (by omega)];exact h.shr0 j f
 ·intro j f hn
  have M:∀ x:Nat,σ.sh[x]?=some aO->(σ.sh.set i aO++[cells])[x]?=some aO:=by
   intro x h0;have B:=(jh.1 h0).1;rw[kq (by simpa using B)];by_cases e:x=i
   ·subst e;exact sp B
   ·rw[xm (ad9 e)];exact h0
  show _<=upd g.β _ _ j\/∃ U,_/\E.β0 U=upd g.β _ _ j/\E.D0 U=false/\(σ.sh.set i aO++[cells])[U]?=some aO;by_cases d:j<σ.sh.length
  ·rw[q j d]
   rcases h.shr1 j d hn with o | ⟨x,o,D,F,G⟩
   ·exact .inl o
   ·exact .inr ⟨x,o,D,F,M x G⟩
  ·have:upd g.β σ.sh.length (g.β i) j=g.β i:=by
    have:j=σ.sh.length:=by simp at f;omega
    simp [upd,this]
   rw[this];rcases aa7 i E.n0 with r | r
   ·refine .inr ⟨i,r,(h.shr0 i r).1.symm,?_,?_⟩
    ·cases I:E.D0 i with
     | false=>rfl
     | true =>
      have o:=h.dd i r I;rw[hi] at o;cases o;exact absurd rfl (cL L)
    ·rw[kq (by simpa using p)];exact sp p
   ·rcases h.shr1 i p r with o | ⟨x,o,D,F,G⟩
    ·exact .inl o
    ·exact .inr ⟨x,o,D,F,M x G⟩
 ·intro j f I
  have o:=h.dd j f I;have d:=(jh.1 o).1;rw[kq (by simpa using d)];by_cases e:j=i
  ·subst e;exact sp d
  ·rw[xm (ad9 e)];exact o
 ·intro j f
  show upd g.β _ _ j<_;by_cases d:j<σ.sh.length
  ·rw[q j d];exact h.shrlt j d
  ·have:upd g.β σ.sh.length (g.β i) j=g.β i:=by
    have:j=σ.sh.length:=by simp at f;omega
    simp [upd,this]
   rw[this];exact h.shrlt i p
 ·intro j f
  show ∃ U,upd g.kd _ _ (upd g.β _ _ j)=_;by_cases d:j<σ.sh.length
  ·rw[q j d]
   by_cases e:g.β j=g.β i
   ·rw[e];exact⟨_,by simp [upd];rfl⟩
   ·rw[m _ e];exact h.shrk j d
  ·have:upd g.β σ.sh.length (g.β i) j=g.β i:=by
    have:j=σ.sh.length:=by simp at f;omega
    simp [upd,this]
   rw[this];exact⟨_,by simp [upd];rfl⟩
 ·intro s c C
  obtain⟨y,R,S⟩:=h.loc s c C;refine⟨(m _ ?_).trans y,R,S.mono u rfl (λ_ _ _ _ _ h=>h)⟩;intro e;have Q:g.kd (g.lam s)=.loc s:=y;rw[e,V] at Q;cases Q
 ·intro b k T
  obtain⟨y,R,t,k',S,j4⟩:=h.o0 b k T;refine⟨y,R,t,k',(m b ?_).trans S,j4⟩
  rintro rfl
  rw[V] at S;cases S
 ·intro b t k T
  by_cases e:b=g.β i
  ·subst e
   have:upd g.kd (g.β i) (.shr σ.sh.length) (g.β i)=.own t k:=T
   simp [upd] at this
  ·exact h.own0 b t k ((m b e).symm.trans T)
def Sim.killObj(h:Sim E g σ a w){i:Nat}{cells:List AV}(hi:σ.sh[i]?=some cells)(b:bX cells=true):Sim E g { σ with sh:=σ.sh.set i aO } a w:=
 h.setObj hi (cL b) rfl (λ_ _=>rfl) rfl rfl rfl (λ_ _ hd=>absurd rfl hd)
def lG(L:Sim E g σ a w)(R:okR M C=true)(h:eM d q σ.sh (ev σ.fr C)=some bd):
  ∃ vs:List Value,vs.length=bd.length*q/\aM (aG (SS E g w) w) bd.flatten vs/\(∀ e∈bd,e.length=q) /\
   (∀ w',(Builtin.lenOf (a.eval M)).run P w'=.ok bd.length w')/\(∀ k,(Builtin.firstCells q bd.length (a.eval M)).run P { w with drawn:=k }=.ok vs.toArray { w with drawn:=k }):=by
 unfold eM at h
 split at h
 ·rename_i so off n b V
  split at h
  ·rename_i U
   obtain⟨_,rfl⟩:=U;obtain⟨cells,G,c⟩:=jj.1 h;obtain⟨e0,S,D,e2,e3⟩:=L.rd R V;by_cases J:n=0
   ·subst J
    have X:bd=[]:=by
     unfold dE at c
     split at c
     ·cases c;rfl
     ·cases c
    subst X;refine⟨[],by simp,by simp [aM],by simp,λw'=>by simp [D,Builtin.lenOf],λk=>?_⟩;rw[D];simp [Builtin.firstCells,loadCells,loadCellsFrom]
   ·have p:0<b/\off+n*b<=cells.length/\((cells.drop off).take (n*b)).all (λx=>aQ (aJ x))=true:=by
     unfold dE at c
     split at c
     ·rename_i h;exact h
     ·cases c
    have O:0<n*b:=ai1 (by omega) p.1;have f:bX cells=true:=by
     have key:∀ M,cells=[M]->aQ (aJ M)=true:=by
      rintro M rfl
      have:off=0/\n*b=1:=by have:=p.2.1;simp at this;omega
      obtain⟨rfl,G⟩:=this;have B:=p.2.2;rw[G] at B;simpa using B
     unfold bX;split
     ·have:=key _ rfl;simp [aJ,aQ] at this
     ·have:=key _ rfl;simp [aJ,aQ] at this
     ·rfl
    obtain⟨_,K,_⟩:=L.shr so cells G (cL f)
    obtain⟨m,ty,fz,Y,_,q2,q3⟩:=K f;have l:aM (aG (SS E g w) w) (((cells.drop off).take (n*b)).map aJ) ((m.toList.drop off).take (n*b)):=by
     refine lU off (n*b) aJ p.2.1 λj x H Q=>?_
     obtain⟨u,B,T⟩:=q3 _ x Q;have N:=p.2.2;rw[kx] at N;refine⟨u,B,u9 (Z:=cx E g σ w) (N x (ns.2 ⟨j,?_⟩)) T⟩;rw[mx H,tb];exact Q
    have i:(((cells.drop off).take (n*b)).map aJ).length=n*b:=by simp;omega
    obtain⟨f1,f2,F⟩:=iQ b n _ i;have I:bd=cP b n (((cells.drop off).take (n*b)).map aJ):=by
     unfold dE at c;rw[iw p] at c;cases c;rfl
    subst I;have o:∀ j v,((m.toList.drop off).take (n*b))[j]?=some v->∀ k,({ w with drawn:=k }:World).cell? ⟨g.β so,off+j,none⟩=some v:=by
     intro j v A k;rw[Vz] at A
     split at A
     ·rw[tb] at A
      simp [World.cell?,Y];simpa using A
     ·cases A
    have y:((m.toList.drop off).take (n*b)).length=n*b:=by rw[l.length];exact i
    have r:a.eval M=.slice (some ⟨g.β so,off,none⟩) n S:=D;refine⟨_,by rw[y,F],by rw[f1];exact l,f2,λw'=>by rw[r];show Sem.run P (pure n) w'=_;rw[F];rfl,λk=>?_⟩;have s:=ac3 (P:=P) { w with drawn:=k } ⟨g.β so,off,none⟩ _ (λj v H=>by rw[dJ];exact o j v H k);rw[y] at s;rw[F];simp [r,Builtin.firstCells,s]
  ·cases h
 ·exact zN L R h
def rI{ib f:TypeId}(h:P.underlying J=some (.slice ib))(i:P.underlying bj=some ea)(l:∀ k,ea≠.int k)
  (hi:P.info? ib=some bp)(c:∀ w',(Builtin.lenOf I).run P w'=.ok R w')
  (d:∀ k,(Builtin.firstCells bp.size R I).run P { w with drawn:=k }=.ok cd.toArray { w with drawn:=k })
  (hg:w.heap[j]?=some (.cells bk f gm))(o:QP gm bk.size)(a:n+R<=q)(b:n*bp.size+cd.length<=bk.size)(g:∀ v∈cd,v.oneCell'=true):
  (Builtin.append_ #[J,bj] bx #[.slice (some ⟨j,0,none⟩) n q,I]).run P w =
   .ok (.slice (some ⟨j,0,none⟩) (n+R) q) (w.setRow j (bk.toList.take (n*bp.size)++cd++bk.toList.drop (n*bp.size+cd.length)).toArray):=by
 have m:=d w.drawn;have e:=d7 P j (n*bp.size) f gm cd 0 bk w hg o (by simpa using b) g;simp only[rh] at e;simp [Builtin.append_,ke h,ke i,sizeOf,typeInfo,hi,c,a,m,dJ,e]
def TE(G:Sim E g σ a w)(hd:∀ d,o.dst=some d->d<E.nt)(F:o.op=.call { callee:=.builtin .append,args:=#[M,bi],argTypes:=#[J,bj] })
  (hx:okR M C=true)(hy:okR bi ba=true)
  (ht:P.underlying J=some (.slice bx))(hu:P.underlying bj=some ea)(H:∀ k,ea≠.int k)(hi:P.info? bx=some bp)(y:bp.size=q)(x:bp.bytes=R)(hz:bp.zero=some I)(K:I.cells.size=q)
  {z':Nat}(he:ev σ.fr C=.sl .full z' [])(hr:eM U q σ.sh (ev σ.fr ba)=some bd)(D:bd≠[])(ar:0<q)
  (p:bd.length*R<=140737488355328)(av:bd.length<=4611686018427387904):
  o.wp P a w (aS E (put { σ with sh:=σ.sh++[bd.flatten] } o.dst (.ss σ.sh.length 0 bd.length q))) Q:=by
 subst y;subst x;obtain⟨i,n1,n2,n3,n4,n5⟩:=lG (P:=P) G hy hr;obtain⟨A,c,T,e2,V,_⟩:=G.rdSl hx he;have r:c=0:=by simpa using V rfl
 subst r;have O:0<bd.length:=by
  rcases aj6 bd.length with h | h
  ·exact absurd (js h) D
  ·exact h
 have l:∀ k,(Builtin.firstCells bp.size 0 (.slice A 0 0)).run P { w with drawn:=k }=.ok ([]:List Value).toArray { w with drawn:=k }:=by
  intro k;cases A<;>simp [Builtin.firstCells,loadCells,loadCellsFrom]
 have f:=n6 (P:=P) (w:=w) (bx:=o.type) ht hu H hi hz n4 l n5 (by omega) (by omega) (by rw[km];exact p);simp only[km] at f;have Y:=G.drawn (w.drawn+1);have u:=ai0 w bd.length 0 bx
 obtain⟨g',k1,k2,k3,k4⟩:=Y.newShr (cells:=bd.flatten) (cs:=([]:List Value).toArray++i.toArray++Builtin.zeroCells I.cells (grownCap w bd.length 0 bx-bd.length)) (e:=bx) (λj bi hj=>by
  obtain⟨v,L,h4⟩:=n2.get hj;refine⟨v,?_,(d8 (Z:=cx E g σ { w with drawn:=w.drawn+1 }) (aG.mono (S:=SS E g w) (S':=SS E g w) (w:=w) (w':={ w with drawn:=w.drawn+1 }) (λb n h=>⟨h,rfl⟩) _ _ h4)).2⟩;have B:=(jh.1 L).1;rw[yv (by simpa using B)]
  simpa using L)
 refine cO k1 (I:=.slice (some ⟨w.heap.size,0,none⟩) bd.length (grownCap w bd.length 0 bx)) ?_ λd s=>⟨hd d s,?_⟩
 ·have m:a.eval M=.slice A 0 0:=T
  simp only[execOp,F,resolve,invoke,builtin,map_toArray,ju,kh,m];simp [f]
 ·refine⟨by simp [cx],grownCap w bd.length 0 bx,?_,u,?_⟩
  ·show _=Value.slice (some ⟨g'.β σ.sh.length,0,none⟩) _ _
   have:g'.β σ.sh.length=w.heap.size:=k3
   rw[this]
  ·have N:g'.bs σ.sh.length=2*(([]:List Value).toArray++i.toArray++Builtin.zeroCells I.cells (grownCap w bd.length 0 bx-bd.length)).size+1:=k4
   refine tQ ?_ (by show g'.bs σ.sh.length % 2=1;rw[N];omega);show 0+_=g'.bs σ.sh.length / 2;rw[N,show ∀ X:Nat,(2*X+1) / 2=X from λX=>by omega];simp only[ac9,ag2,al7,K,n1,jz];rw[km,km,<- sa]
   congr 1
   omega
def TD(hs:Sim E g σ a w)(hd:∀ d,o.dst=some d->d<E.nt)(bo:o.op=.call { callee:=.builtin .append,args:=#[M,bi],argTypes:=#[J,bj] })
  (hx:okR M C=true)(hy:okR bi ba=true)
  (ht:P.underlying J=some (.slice bx))(hu:P.underlying bj=some ea)(a4:∀ k,ea≠.int k)(hi:P.info? bx=some bp)(a9:bp.size=q)(a8:bp.bytes=R)(hz:bp.zero=some I)(bb:I.cells.size=q)
  {so:Nat}(he:ev σ.fr C=.ss so 0 n q)(hr:eM U q σ.sh (ev σ.fr ba)=some bd)(hc:σ.sh[so]?=some f)(D:bX f=true)(hn:n*q=f.length)(ar:f.all iE=true)(b7:0<q)
  (a6:(n+bd.length)*R<=140737488355328)(b6:n+bd.length<=4611686018427387904):
  o.wp P a w (aS E (put { σ with sh:=σ.sh.set so aO++[f++bd.flatten] } o.dst (.ss σ.sh.length 0 (n+bd.length) q))) Q:=by
 subst a9;subst a8;obtain⟨A,n1,n2,n3,n4,n5⟩:=lG (P:=P) hs hy hr;obtain⟨e0,B,e1,e2,e3⟩:=hs.rd hx he;have a5:a.eval M=.slice (some ⟨g.β so,0,none⟩) n B:=e1;have b0:0+B*bp.size<=g.bs so / 2:=e3.1;have ag:so<σ.sh.length:=(jh.1 hc).1;obtain⟨k1,k2,_⟩:=hs.shr so f hc (cL D);obtain⟨p,ty,fz,h6,a0,h7,h8⟩:=k2 D;have y:∀ v w',(Builtin.append_ #[J,bj] o.type #[.slice (some ⟨g.β so,0,none⟩) n B,a.eval bi]).run P w=.ok v w'->(execOp a.eval o).run P w=.ok (.value v) w':=by
  intro v w' h;simp [execOp,bo,resolve,invoke,builtin,a5,h]
 have b5:bd.flatten.length=bd.length*bp.size:=by rw[<- n2.length];exact n1
 have O:(f++bd.flatten).all iE=true:=by
  rw[af7,ar,jx,kx];intro bi bg;obtain⟨j,r⟩:=ns.1 bg;obtain⟨v,_,x⟩:=n2.get r
  cases bi with
  | sl m q l =>
   cases m with
   | own=>simp only[aG] at x;obtain⟨_,_,_,_,_,h5,_⟩:=x;exact absurd rfl h5
   | no=>rfl
   | full=>rfl
  | _=>rfl
 have T:bX (f++bd.flatten)=true:=by
  unfold bX;split
  ·rename_i m K
   exfalso
   cases f with
   | nil =>
    rw[kg] at K;have h0:bd.flatten[0]?=some (.mapv m):=by rw[K];rfl
    obtain⟨v,_,x⟩:=n2.get h0;simp [aG] at x
   | cons c cs =>
    simp only[ko,aa1,af3] at K;obtain⟨rfl,rfl,_⟩:=K;simp [bX] at D
  ·rename_i K
   exfalso
   cases f with
   | nil =>
    rw[kg] at K;have h0:bd.flatten[0]?=some .undef:=by rw[K];rfl
    obtain⟨v,_,x⟩:=n2.get h0;simp [aG] at x
   | cons c cs =>
    simp only[ko,aa1,af3] at K;obtain⟨rfl,rfl,_⟩:=K;simp [bX] at D
  ·rfl
 have b3:=h7.1;have L:B*bp.size<=p.size:=by omega
 by_cases hg:B<n+bd.length
 ·
  have b4:f.length<=p.size:=by rw[<- hn];exact ab1 (ab0 _ e2) L
  have a3:∀ k,(Builtin.firstCells bp.size n (.slice (some ⟨g.β so,0,none⟩) n B)).run P { w with drawn:=k }=.ok (p.toList.take (n*bp.size)).toArray { w with drawn:=k }:=by
   intro k;have br:(p.toList.take (n*bp.size)).length=n*bp.size:=by simp;omega
   have a1:=ac3 (P:=P) { w with drawn:=k } ⟨g.β so,0,none⟩ (p.toList.take (n*bp.size)) (λj v r=>by
    rw[dJ];rw[Vz] at r
    split at r
    ·simp [World.cell?,h6];simpa using r
    ·cases r)
   rw[br] at a1;simp only[Builtin.firstCells,a1]
  have F:=n6 (P:=P) (w:=w) (bx:=o.type) ht hu a4 hi hz n4 a3 n5 hg (by omega) a6;have h1:=hs.drawn (w.drawn+1);have a7:=ai0 w (n+bd.length) B bx
  obtain⟨g',q1,q2,q3,q4⟩:=h1.newShr (cells:=f++bd.flatten) (cs:=(p.toList.take (n*bp.size)).toArray++A.toArray++Builtin.zeroCells I.cells (grownCap w (n+bd.length) B bx-(n+bd.length))) (e:=bx) (λj bi r=>by
   have a2:Cx.le (cx E g σ w) (cx E g σ { w with drawn:=w.drawn+1 }):=⟨λb n h=>⟨h,rfl⟩,ji _,λ_ _=>rfl,λ_ _=>rfl,λs hs=>⟨hs,rfl⟩⟩
   rw[aa0] at r
   split at r
   ·rename_i av
    obtain⟨v,H,x⟩:=h8 j bi r;refine⟨v,?_,bO.mono a2 _ _ (λq l bx=>?_) x⟩
    ·rw[yv (by simp;omega),yv (by simp;omega)]
     rw[ad2,mx (by omega)];simpa using H
    ·subst bx
     rw[kx] at ar
     have:=ar _ (ns.2 ⟨j,r⟩)
     simp [iE] at this
   ·rename_i av
    obtain⟨v,H,x⟩:=n2.get r;refine⟨v,?_,(d8 (Z:=cx E g σ { w with drawn:=w.drawn+1 }) (aG.mono (S:=SS E g w) (S':=SS E g w) (w:=w) (w':={ w with drawn:=w.drawn+1 }) (λb n h=>⟨h,rfl⟩) _ _ x)).2⟩;have N:=(jh.1 H).1;have ap:(p.toList.take (n*bp.size)).toArray.size=f.length:=by simp;omega
    rw[yv (by simp;omega),ao2 (by omega),ap]
    simpa using H)
  have q5:=q1.killObj (i:=so) (cells:=f) (by rw[kq ag];exact hc) D;have G:(σ.sh++[f++bd.flatten]).set so aO=σ.sh.set so aO++[f++bd.flatten]:=by rw[set_append_left _ _ ag]
  simp only[G] at q5;refine cO q5 (y _ _ F) λd Y=>⟨hd d Y,?_⟩
  refine⟨by simp [cx],grownCap w (n+bd.length) B bx,?_,a7,?_⟩
  ·show _=Value.slice (some ⟨g'.β σ.sh.length,0,none⟩) _ _
   have:g'.β σ.sh.length=w.heap.size:=q3
   rw[this]
  ·have hb:g'.bs σ.sh.length=2*_+1:=q4
   refine tQ ?_ (by show g'.bs σ.sh.length % 2=1;rw[hb];omega);show 0+_=g'.bs σ.sh.length / 2;rw[hb,show ∀ X:Nat,(2*X+1) / 2=X from λX=>by omega];simp only[ac9,ag2,al7,bb,n1,tr,ac2];rw[ad7 (by omega),<- sa,<- sa];simp only[km]
   congr 1
   omega
 ·
  have u:n+bd.length<=B:=by omega
  have ab:n*bp.size+A.length<=p.size:=by rw[n1,<- sa];exact ab1 (ab0 _ u) L
  have F:=rI (P:=P) (w:=w) (bx:=o.type) (q:=B) ht hu a4 hi n4 n5 h6 a0 u ab (eT (S:=λ_ _=>True) (c:=cx E g σ w) n2)
  have V:=hs.setShr (cells':=f++bd.flatten) (arr':=(p.toList.take (n*bp.size)++A++p.toList.drop (n*bp.size+A.length)).toArray) hc (cL D) h6 a0 (by simp;omega) h7 (λj bi r=>by
   rw[ad2,kb];rw[aa0] at r
   split at r
   ·rename_i av
    obtain⟨v,H,x⟩:=h8 j bi r;refine⟨v,?_,x⟩;rw[kq (by simp;omega),mx (by omega)];simpa using H
   ·rename_i av
    obtain⟨v,H,x⟩:=n2.get r;have N:=(jh.1 H).1;refine⟨v,?_,bO.mono (Cx.le.refl _) _ _ (λ_ _ _ h=>h.elim) (d8 (Z:=cx E g σ w) x).2⟩;have ap:(p.toList.take (n*bp.size)).length=f.length:=by simp;omega
    rw[ky (by omega),ap,kq N]
    exact H)
  obtain⟨q5,q6⟩:=V.moveObj (i:=so) (cells:=f++bd.flatten) (sp ag) T O;have G:(σ.sh.set so (f++bd.flatten)).set so aO++[f++bd.flatten]=σ.sh.set so aO++[f++bd.flatten]:=by rw[set_set]
  have q7:Sim E _ { σ with sh:=(σ.sh.set so (f++bd.flatten)).set so aO++[f++bd.flatten] } a _:=q5;rw[G] at q7;refine cO q7 (y _ _ F) λd Y=>⟨hd d Y,?_⟩
  refine⟨by simp [cx],B,by simp [cx,upd],u,?_⟩;have h9:ssz 0 B bp.size (g.bs so):=e3;simpa [cx,upd] using h9
def Z2(i:Sim E g σ a w)(hd:∀ d,o.dst=some d->d<E.nt)(f:o.op=.makeMap J none):
  o.wp P a w (aS E (put { σ with sh:=σ.sh++[[.mapv []]] } o.dst (.mp σ.sh.length))) Q:=by
 obtain⟨j,k⟩:=i.alloc (.map #[] 0) (.shr σ.sh.length);have c:(w.alloc (.map #[] 0)).heap[w.heap.size]?=some (.map #[] 0):=ae2 w _;obtain⟨l,m⟩:=j.addShr (b:=w.heap.size) (n:=0) (cells:=[.mapv []]) (by simp [upd]) i.hsize (by simp) (λ_=>⟨λh=>by simp [bX] at h,⟨#[],0,c,trivial⟩⟩);refine cO l (I:=.map (some w.heap.size)) ?_ λd e=>⟨hd d e,by simp [cx],by simp [cx,upd]⟩
 have:(Instr.makeMap J none).run P w=.ok (.map (some w.heap.size)) (w.alloc (.map #[] 0)):=rfl
 simp [execOp,f,this]
def xL(h:AL P J r=true):(∃ k,P.underlying J=some (.int k)/\r=[0])\/(P.underlying J=some .string/\r=[2]):=by
 unfold AL at h
 split at h
 ·rename_i k a;exact .inl ⟨k,a,rfl⟩
 ·rename_i a;exact .inr ⟨a,rfl⟩
 ·cases h
def H6(e:(∃ k,ea=.int k/\kk=[0])\/(ea=.string/\kk=[2]))(h:oT kk bv fx=some d):
  (∃ k f a b,ea=.int f/\bv=.int k a/\fx=.int k b/\d=(a==b))\/(∃ a b,ea=.string/\bv=.str a/\fx=.str b/\d=(a==b)):=by
 rcases e with ⟨k,rfl,rfl⟩ | ⟨rfl,rfl⟩
 ·unfold oT at h
  cases bv<;>cases fx<;>simp only[eqL,reduceCtorEq,jq] at h
  rename_i g j i l
  split at h
  ·rename_i c
   subst c;simp only[kv,jc] at h;exact .inl ⟨_,_,_,_,rfl,rfl,rfl,h.symm⟩
  ·cases h
 ·unfold oT at h
  cases bv<;>cases fx<;>simp only[eqL,reduceCtorEq,jq] at h
  simp only[kv,jc] at h;exact .inr ⟨_,_,rfl,rfl,rfl,h.symm⟩
def yc{cr y:ByteArray}:(cr==y)=(cr.data.toList==y.data.toList):=by
 have a:(cr==y)=(cr.data==y.data):=by cases cr;cases y;rfl
 rw[a,Array.beq_toList]
def jT(n:(∃ k,ea=.int k/\kk=[0])\/(ea=.string/\kk=[2])){c:Value}(h:oT kk bv fx=some d)(i:aR Z bv I)(j:aR eo fx c):
  Instr.sameNow ea I c=some d/\(d=true->Instr.sameBits 10000 c I=true):=by
 rcases H6 n h with ⟨k,o,a,b,rfl,rfl,rfl,rfl⟩ | ⟨a,b,rfl,rfl,rfl,rfl⟩
 ·have l:I=.int k a:=i
  have m:c=.int k b:=j;subst l;subst m;refine⟨by simp [Instr.sameNow],λe=>?_⟩
  have:a=b:=by simpa using e
  subst this;simp [Instr.sameBits]
 ·obtain⟨p,rfl,f⟩:∃ s,I=.string s/\s.data.toList=a:=i
  obtain⟨q,rfl,g⟩:∃ s,c=.string s/\s.data.toList=b:=j;refine⟨by simp [Instr.sameNow,yc,f,g],λe=>?_⟩;simp only[Instr.sameBits,yc,f,g]
  have:a=b:=by simpa using e
  simp [this]
def AY{c c':Cx}{a:TypeDesc}{kk:List Nat}(f:(∃ k,a=.int k/\kk=[0])\/(a=.string/\kk=[2])){x:AV}{u:Value}(m:aR c x u):∀ {l:LL} {es:List MapEntry} {r:Option AV} (i:Nat),eF c' l es->lkA kk x l=some r ->
  (∃ v,r=some v/\∃ j val,Instr.findNow a u es i=some (some (j,val))/\aR c' v val/\bD v=true)\/(r=none/\Instr.findNow a u es i=some none)
 | [],[],r,i,_,h=>by
  simp only[lkA,jc] at h;subst h;exact .inr ⟨rfl,rfl⟩
 | [k,v]::l,e::es,r,i,b,h=>by
  simp only[eF] at b;obtain⟨q,m2,n,o,p⟩:=b;simp only[lkA] at h
  split at h
  ·rename_i g
   cases h;obtain⟨d,_⟩:=jT f g m n;exact .inl ⟨v,rfl,i,e.val,by simp [Instr.findNow,d],o,m2⟩
  ·rename_i g
   obtain⟨d,_⟩:=jT f g m n
   have:=AY f m (i+1) p h
   simpa [Instr.findNow,d] using this
  ·cases h
 | [],_::_,_,_,b,_=>by simp [eF] at b
 | []::_,_,_,_,b,_=>by simp [eF] at b
 | [_]::_,_,_,_,b,_=>by simp [eF] at b
 | (_::_::_::_)::_,_,_,_,b,_=>by simp [eF] at b
 | [_,_]::_,[],_,_,b,_=>by simp [eF] at b
def of{J bx:TypeId}(i:AL P bj kk=true)(m:aR Z bv I)(l:eF eo bd es.toList)(h:lkA kk bv bd=some eh)(o:bd≠[]\/bY bv=true)(w:World):
  (∀ b,(Instr.checkKey b 10000 bj I).run P w=.ok () w) /\
  ((∃ v,eh=some v/\∃ j val,(Instr.findKey bj I es.toList).run P w=.ok (some (j,val)) w/\aR eo v val/\bD v=true)\/(eh=none/\(Instr.findKey bj I es.toList).run P w=.ok none w)):=by
 have f:=xL i;obtain⟨a,e,hd⟩:∃ a,P.underlying bj=some a/\((∃ k,a=.int k/\kk=[0])\/(a=.string/\kk=[2])):=by
  rcases f with ⟨k,c,d⟩ | ⟨c,d⟩
  ·exact⟨_,c,.inl ⟨k,rfl,d⟩⟩
  ·exact⟨_,c,.inr ⟨rfl,d⟩⟩
 refine⟨λb=>?_,?_⟩
 ·rcases hd with ⟨k,rfl,_⟩ | ⟨rfl,_⟩
  ·show Sem.run P (Instr.checkKey b (9999+1) bj I) w=_
   generalize 9999=n;simp [Instr.checkKey,ke e]
  ·show Sem.run P (Instr.checkKey b (9999+1) bj I) w=_
   generalize 9999=n;simp [Instr.checkKey,ke e]
 ·rcases AY hd m 0 l h with ⟨v,rfl,j,val,c,d,g⟩ | ⟨rfl,c⟩
  ·exact .inl ⟨v,rfl,j,val,by simp [Instr.findKey,ke e,c],d,g⟩
  ·exact .inr ⟨rfl,by simp [Instr.findKey,ke e,c]⟩
def TN(h:bD bv=true)(r:aR Z bv I):aV Z aX bv I/\aJ bv=bv:=by
 cases bv with
 | sl m z l=>simp [bD,bY] at h
 | any=>simp [bD,bY] at h
 | undef=>simp [bD,bY] at h
 | loc=>simp [bD,bY] at h
 | ip=>simp [bD,bY] at h
 | fn=>simp [bD,bY] at h
 | tup=>simp [bD,bY] at h
 | mapv=>simp [bD,bY] at h
 | aggR=>simp [bD,bY] at h
 | _=>exact⟨r,rfl⟩
def PW(h:MC P J d zero=true)(w:World):
  ∃ a,(zeroValue J).run P w=.ok a w/\((d=true/\∃ cs,a=.agg cs/\aM (aG (SS E g w) w) zero cs.toList)\/(d=false/\∃ z,zero=[z]/\aG (SS E g w) w z a/\aR (cx E g σ w) z a)):=by
 unfold MC at h;cases hi:P.info? J with
 | none=>rw[hi] at h;simp at h
 | some i =>
  rw[hi] at h;simp only[jk] at h
  split at h
  ·rename_i cs f
   rw[ir] at h;exact⟨_,by simp [zeroValue,typeInfo,hi,f],.inl ⟨h.1,cs,rfl,kS h.2⟩⟩
  ·rename_i v f e
   rw[ir] at h;obtain⟨j,b⟩:=h
   split at b
   ·rename_i x
    have c:aG (SS E g w) w x v:=yN b;have k:aR (cx E g σ w) x v:=by
     cases x<;>first | exact c | simp [aG] at c
    exact⟨_,by simp [zeroValue,typeInfo,hi,e],.inr ⟨by simpa using j,x,rfl,c,k⟩⟩
   ·cases b
  ·cases h
def Z5(p:Sim E g σ a w)(hd:∀ d,o.dst=some d->d<E.nt)(i:o.op=.lookup J M bi U)(O:okR M C=true)(R:okR bi ba=true)
  (v:P.underlying J=some (.map bj bx))(L:AL P bj kk=true){bm:Bool}(S:MC P bx bm zero=true)(K:ev σ.fr C=.mp n)(N:σ.sh[n]?=some [.mapv bd])(h:lkA kk (ev σ.fr ba) bd=some eh)
  (r:lkR U bm zero eh=some bv)
  (m:bY (ev σ.fr ba)=true):
  o.wp P a w (aS E (put σ o.dst bv)) Q:=by
 obtain⟨e0,H⟩:=p.rd O K;obtain⟨x,e,D⟩:=PW (E:=E) (g:=g) (σ:=σ) S w;obtain⟨_,_,A⟩:=p.shr n _ N (by simp [aO]);obtain⟨es,l,T,m2⟩:=A;have f:a.eval M=.map (some (g.β n)):=H;have B:aR (cx E g σ w) (ev σ.fr ba) (a.eval bi):=by
  have:=p.ev_ (ow:=aX) R
  generalize ev σ.fr ba=q at this m
  cases q<;>simp [bY] at m<;>exact this
 obtain⟨c1,c2⟩:=of (J:=J) (bx:=bx) L B m2 h (.inr m) w;have b:(getObj (g.β n)).run P w=.ok (.map es l) w:=by simp [getObj,Sem.run,T]
 rcases c2 with ⟨v',rfl,j,val,c3,c4,c5⟩ | ⟨rfl,c3⟩
 ·simp only[lkR,jc] at r
  obtain⟨V,X⟩:=TN c5 c4;cases U
  ·simp only[jl,kz] at r
   subst r;refine aI p hd (I:=val) ?_ X V;simp [execOp,i,f,Instr.lookup,ke v,b,c1,c3]
  ·simp only[kp] at r
   subst r;refine aI p hd (I:=.tuple #[val,.bool true]) ?_ rfl ⟨_,rfl,c4,rfl,trivial⟩;simp [execOp,i,f,Instr.lookup,ke v,b,c1,c3]
 ·have F:∃ s:AV,bv=(if U then .tup [s,.bool false] else s)/\aR (cx E g σ w) s x/\aV (cx E g σ w) aX s x/\aJ s=s:=by
   rcases D with ⟨rfl,cs,rfl,u⟩ | ⟨rfl,z,rfl,u,y⟩
   ·exact⟨.agg zero,by simpa [lkR,eq_comm] using r,⟨cs,rfl,u⟩,⟨cs,rfl,u⟩,rfl⟩
   ·have G:=aG.top (c:=cx E g σ w) (ow:=aX) u
    refine⟨z,by simpa [lkR,eq_comm] using r,y,G.1,G.2.1⟩
  obtain⟨s,k,Y,Z,z3⟩:=F;cases U
  ·simp only[jl,kz] at k
   subst k;refine aI p hd (I:=x) ?_ z3 Z;simp [execOp,i,f,Instr.lookup,ke v,b,c1,c3,e]
  ·simp only[kp] at k
   subst k;refine aI p hd (I:=.tuple #[x,.bool false]) ?_ rfl ⟨_,rfl,Y,rfl,trivial⟩;simp [execOp,i,f,Instr.lookup,ke v,b,c1,c3,e]
def CV{c c':Cx}{a:TypeDesc}{kk:List Nat}(r:(∃ k,a=.int k/\kk=[0])\/(a=.string/\kk=[2])){x:AV}{u:Value}(w:aR c x u)(f:aR c' x u){y:AV}{val:Value}(A:aR c' y val)
  (B:bD x=true)(C:bD y=true)(d:Nat):
  ∀ {l m:LL} {es:List MapEntry} (i:Nat),eF c' l es->muA kk x y l=some m ->
  (∃ j g,Instr.findNow a u es i=some (some (i+j,g))/\(∃ e,es[j]?=some e/\Instr.sameBits 10000 e.key u=true)/\eF c' m (es.modify j λe=>{ e with key:=u,val:=val })) \/
  (Instr.findNow a u es i=some none/\eF c' m (es++[{ key:=u,val:=val,born:=d }]))
 | [],m,[],i,_,h=>by
  simp only[muA,jc] at h;subst h;exact .inr ⟨rfl,B,C,f,A,trivial⟩
 | [k,v]::l,m,e::es,i,b,h=>by
  simp only[eF] at b;obtain⟨D,m2,o,E,F⟩:=b;simp only[muA] at h
  split at h
  ·rename_i s
   cases h;obtain⟨n,H⟩:=jT r s w o
   refine .inl ⟨0,e.val,by simp [Instr.findNow,n],⟨e,rfl,H rfl⟩,?_⟩
   simp only[modify_cons,kp];exact⟨B,C,f,A,F⟩
  ·rename_i s
   obtain⟨l2,I,rfl⟩:=jf.1 h;obtain⟨n,_⟩:=jT r s w o;rcases CV r w f A B C d (i+1) F I with ⟨j,g,p,⟨G,q,J⟩,K⟩ | ⟨p,q⟩
   ·refine .inl ⟨j+1,g,?_,⟨G,by simpa using q,J⟩,?_⟩
    ·simp only[Instr.findNow,n]
     rw[p,La,Nat.add_comm 1 j]
    ·simp only[modify_succ_cons]
     exact⟨D,m2,o,E,K⟩
   ·exact .inr ⟨by simp only[Instr.findNow,n];exact p,D,m2,o,E,q⟩
  ·cases h
 | [],_,_::_,_,b,_=>by simp [eF] at b
 | []::_,_,_,_,b,_=>by simp [eF] at b
 | [_]::_,_,_,_,b,_=>by simp [eF] at b
 | (_::_::_::_)::_,_,_,_,b,_=>by simp [eF] at b
 | [_,_]::_,_,[],_,b,_=>by simp [eF] at b
def Qp(b:Sim E g σ a w)(c:okR M C=true)(h:bD (ev σ.fr C)=true):aR (cx E g σ w) (ev σ.fr C) (a.eval M):=by
 have:=b.ev_ (ow:=aX) c
 generalize ev σ.fr C=q at this h
 cases q with
 | sl m z l=>simp [bD,bY] at h
 | any=>simp [bD,bY] at h
 | undef=>simp [bD,bY] at h
 | loc=>simp [bD,bY] at h
 | ip=>simp [bD,bY] at h
 | fn=>simp [bD,bY] at h
 | tup=>simp [bD,bY] at h
 | mapv=>simp [bD,bY] at h
 | aggR=>simp [bD,bY] at h
 | _=>exact this
def Z0(s:Sim E g σ a w){ej:AR}(A:o.op=.mapUpdate J M bi ij)(y:o.dst=none)(hm:okR M C=true)(hx:okR bi ba=true)(hy:okR ij ej=true)
  (Z:P.underlying J=some (.map bj bx))(hk:AL P bj r=true){bw:LL}(v:ev σ.fr C=.mp q)(Y:σ.sh[q]?=some [.mapv bd])(h:muA r (ev σ.fr ba) (ev σ.fr ej) bd=some bw)
  (sx:bD (ev σ.fr ba)=true)(sy:bD (ev σ.fr ej)=true):
  o.wp P a w (aS E { σ with sh:=σ.sh.set q [.mapv bw] }) Q:=by
 obtain⟨e0,e1⟩:=s.rd hm v;have u:a.eval M=.map (some (g.β q)):=e1;obtain⟨_,_,S⟩:=s.shr q _ Y (by simp [aO]);obtain⟨es,d,T,m2⟩:=S;have m:(getObj (g.β q)).run P w=.ok (.map es d) w:=by simp [getObj,Sem.run,T]
 have X:=Qp s hx sx;have hY:=Qp s hy sy;have K:=xL hk;obtain⟨i,p,hd⟩:∃ i,P.underlying bj=some i/\((∃ k,i=.int k/\r=[0])\/(i=.string/\r=[2])):=by
  rcases K with ⟨k,v,D⟩ | ⟨v,D⟩
  ·exact⟨_,v,.inl ⟨k,rfl,D⟩⟩
  ·exact⟨_,v,.inr ⟨rfl,D⟩⟩
 have x:∀ b,(Instr.checkKey b 10000 bj (a.eval bi)).run P w=.ok () w:=by
  intro b;show Sem.run P (Instr.checkKey b (9999+1) bj _) w=_;generalize 9999=n;rcases hd with ⟨k,rfl,_⟩ | ⟨rfl,_⟩<;>simp [Instr.checkKey,ke p]
 have O:=s.shrlt q e0;have fin:∀ l f,eF (cx E g σ w) bw l.toList->(execOp a.eval o).run P w=.ok .skip { w with heap:=w.heap.setIfInBounds (g.β q) (.map l f) }->o.wp P a w (aS E { σ with sh:=σ.sh.set q [.mapv bw] }) Q:=by
  intro l f hM B;unfold Oper.wp;rw[B];show aS E _ (a.put o.dst undef) _;rw[y];refine⟨g,s.setObj Y (by simp [aO]) (by simp) (λb' R=>by simp [ai7,ad9 R]) rfl rfl rfl (λN av _=>⟨λhb=>by simp [bX] at hb,?_⟩)⟩;exact⟨l,f,by simp [O],hM.mono N⟩
 rcases CV (c:=cx E g σ w) hd X X hY sx sy d 0 m2 h with ⟨j,U,F,⟨V,G,h6⟩,h7⟩ | ⟨F,G⟩
 ·have I:(Instr.findKey bj (a.eval bi) es.toList).run P w=.ok (some (j,U)) w:=by simp [Instr.findKey,ke p,F]
  have H:es[j]?=some V:=by simpa using G
  have L:(Instr.keyThatStays V.key (a.eval bi)).run P w=.ok (a.eval bi) w:=by simp [Instr.keyThatStays,h6]
  refine fin (es.modify j λe=>{ e with key:=a.eval bi,val:=a.eval ij }) d (by simpa using h7) ?_;simp [execOp,A,u,Instr.mapUpdate,ke Z,m,x,I,H,L,setObj,Sem.run,T]
 ·have I:(Instr.findKey bj (a.eval bi) es.toList).run P w=.ok none w:=by simp [Instr.findKey,ke p,F]
  refine fin (es.push { key:=a.eval bi,val:=a.eval ij,born:=d }) (d+1) (by simpa using G) ?_;simp [execOp,A,u,Instr.mapUpdate,ke Z,m,x,I,setObj,Sem.run,T]
end
section
variable{P:Program}{E:Env}{g g':Gh}{σ σ1:AS}{a:Act}{w w':World}{o:Oper}{Q:Exit->Act->World->Prop}
def qM(h:∀ (j:Nat) (x:AV),f[j]?=some x->∃ v,bk[j]?=some v/\bO Z (fw j) x v):f.length<=bk.size:=by
 by_cases b:f.length=0
 ·omega
 ·obtain⟨u,a,_⟩:=h (f.length-1) _ (ii (by omega))
  have:=(kw.1 a).1
  omega
def IZ(b:vJ eh lo')(g:vJ (some h) (some I))(c:cZ eh 0=some R)(i:cZ (some h) n=some j)(e:R<=j)(f:j<=q)(w:World):
  (Instr.sliceBounds true n q lo' (some I) none).run P w=.ok (R,j,q) w:=by
 have a:∀ code,(match lo' with | some v=>Instr.sliceBound v j code | none=>pure 0).run P w=.ok R w:=by
  intro code;unfold vJ at b
  split at b
  ·simp only[cZ,jc] at c;subst c;rfl
  ·subst b
   obtain⟨_,rfl⟩:=uP c;exact dH e w
  ·exact b.elim
 have d:∀ code,(Instr.sliceBound I q code).run P w=.ok j w:=by
  intro code
  cases h<;>simp [vJ] at g
  subst g;obtain⟨_,rfl⟩:=uP i;exact dH f w
 unfold Instr.sliceBounds
 cases lo'<;>simp at a ⊢<;>simp [a,d]
def D3(l:Sim E g σ a w)(hd:∀ d,o.dst=some d->d<E.nt)(s:o.op=.slice J M lo (some bi) none)(L:okR M C=true)(y:okR bi ba=true)(K:P.underlying J=some (.slice bj))(N:aY P bj=some q)(I:vJ eh (lo.map a.eval))(b:∃ k n,ev σ.fr ba=.int k n)(c:rB q σ.sh (ev σ.fr C) eh (ev σ.fr ba)=some h):
  o.wp P a w (aS E (put σ o.dst h)) Q:=by
 obtain⟨hk,hn,b⟩:=b;have H:vJ (some (ev σ.fr ba)) (some (a.eval bi)):=FP l y b;unfold rB at c
 split at c
 ·rename_i so off n m he
  split at c
  ·rename_i i j cells hi1 D v
   split at c
   ·rename_i hc
    obtain⟨B,ap,rfl,u,p⟩:=hc;obtain⟨ag,U,V⟩:=dZ N;obtain⟨R,f,S,e2,G⟩:=l.rd L he;obtain⟨_,k2,_⟩:=l.shr so cells v (cL p);obtain⟨O,ty,fz,h6,ar,X,Z⟩:=k2 p;have av:=qM Z;have T:off+f*m=g.bs so / 2:=(G.2 (by omega)).1;have u:0<m:=by omega
    have Y:=X.1;have F:j<=f:=by
     have:j*m<=f*m:=by omega
     exact Nat.le_of_mul_le_mul_right this u
    have hb:=IZ (P:=P) (n:=n) I H hi1 D B F w;have e:(execOp a.eval o).run P w=.ok (.value (.slice (if f=i then some ⟨(cx E g σ w).β so,off,none⟩ else some ⟨(cx E g σ w).β so,off+i*m,none⟩) (j-i) (f-i))) w:=by
     simp [execOp,s,S,Instr.sliceAt,Instr.slice,ke K,hb,sizeOf,typeInfo,U,V,dJ]
    split at c
    ·rename_i x
     cases c;refine aI l hd e rfl ?_;refine⟨R,f-i,?_,by omega,MK G (by omega)⟩;by_cases r:f=i
     ·have A:i=0:=by omega
      subst A;simp [r]
     ·rw[ie r]
    ·rename_i x
     cases c;refine aI l hd e rfl ?_
     have:j-i=0:=by omega
     show aG _ _ (.sl .no m []) _;simp only[aG];exact⟨_,_,by rw[this];rfl,by simp,by simp,by simp,.inl trivial⟩
   ·cases c
  ·cases c
 ·refine pC l hd s L (.inl ⟨bj,K,rfl,N⟩) I ?_ c
  exact H
def nI{ce:Type}{cz:Prop}[Decidable cz]{x:Option ce}{y:ce}(h:(if cz then x else none)=some y):cz/\x=some y:=by
 split at h
 ·rename_i a;exact⟨a,h⟩
 ·cases h
def KI(N:Sim E g σ a w){off:Nat}(A:σ.sh[R]?=some f)(b:dE off j z f=some bd):
  ∃ vs:List Value,vs.length=bd.length*z/\aM (aG (SS E g w) w) bd.flatten vs/\(∀ e∈bd,e.length=z)/\bd.length=j /\
   ∀ n s,(Builtin.firstCells z j (.slice (some ⟨g.β R,off,none⟩) n s)).run P w=.ok vs.toArray w:=by
 by_cases C:j=0
 ·subst C
  have M:bd=[]:=by
   unfold dE at b
   split at b
   ·cases b;rfl
   ·cases b
  subst M;refine⟨[],by simp,by simp [aM],by simp,rfl,λn s=>?_⟩;simp [Builtin.firstCells,loadCells,loadCellsFrom]
 ·have m:0<z/\off+j*z<=f.length/\((f.drop off).take (j*z)).all (λx=>aQ (aJ x))=true:=by
   unfold dE at b
   split at b
   ·rename_i h;exact h
   ·cases b
  have H:0<j*z:=ai1 (by omega) m.1;have c:bX f=true:=by
   have key:∀ y,f=[y]->aQ (aJ y)=true:=by
    rintro y rfl
    have:off=0/\j*z=1:=by have:=m.2.1;simp at this;omega
    obtain⟨rfl,A⟩:=this;have r:=m.2.2;rw[A] at r;simpa using r
   unfold bX;split
   ·have:=key _ rfl;simp [aJ,aQ] at this
   ·have:=key _ rfl;simp [aJ,aQ] at this
   ·rfl
  obtain⟨_,D,_⟩:=N.shr R f A (cL c);obtain⟨k,T,Q,O,_,S,J⟩:=D c;have L:=qM J;have i:aM (aG (SS E g w) w) (((f.drop off).take (j*z)).map aJ) ((k.toList.drop off).take (j*z)):=by
   refine lU off (j*z) aJ m.2.1 λq x l I=>?_
   obtain⟨u,r,K⟩:=J _ x I;have G:=m.2.2;rw[kx] at G;refine⟨u,r,u9 (Z:=cx E g σ w) (G x (ns.2 ⟨q,?_⟩)) K⟩;rw[mx l,tb];exact I
  have d:(((f.drop off).take (j*z)).map aJ).length=j*z:=by simp;omega
  obtain⟨f1,f2,F⟩:=iQ z j _ d;have B:bd=cP z j (((f.drop off).take (j*z)).map aJ):=by
   unfold dE at b;rw[iw m] at b;cases b;rfl
  subst B;have p:((k.toList.drop off).take (j*z)).length=j*z:=by rw[i.length];exact d
  refine⟨_,by rw[p,F],by rw[f1];exact i,f2,F,λn s=>?_⟩
  have o:=ac3 (P:=P) w ⟨g.β R,off,none⟩ ((k.toList.drop off).take (j*z)) (λq v l=>by
   rw[dJ];rw[Vz] at l
   split at l
   ·rw[tb] at l
    simp [World.cell?,O];simpa using l
   ·cases l)
  rw[p] at o;simp only[Builtin.firstCells,o]
def ai(p:Sim E g σ a w)(hd:∀ d,o.dst=some d->d<E.nt)(X:o.op=.call { callee:=.builtin .copy,args:=#[M,bi],argTypes:=#[J,bj] })
  (hx:okR M C=true)(hy:okR bi ba=true)(ht:P.underlying J=some (.slice bx))(hz:aY P bx=some q)(F:B3 q σ.sh (ev σ.fr ba) (ev σ.fr C)=some (h,bd)):
  o.wp P a w (aS E (put { σ with sh:=bd } o.dst h)) Q:=by
 unfold B3 at F;cases he:ev σ.fr C<;>rw[he] at F<;>dsimp only at F<;>first | (cases F;done) | skip
 rename_i so off n z';obtain⟨l2,l,av⟩:=jj.1 F;obtain⟨hc,ar⟩:=nI av;obtain⟨rfl,a1,V⟩:=hc;obtain⟨cells,s,ap⟩:=jj.1 ar;obtain⟨k,ag⟩:=nI ap;obtain⟨c',hp,G⟩:=jf.1 ag;simp only[jg] at G;obtain⟨rfl,rfl⟩:=G;obtain⟨ab,hi,U⟩:=dZ hz;have B:∃ (b:List Value) (m:Nat),b.length=l2.length*z'/\aM (aG (SS E g w) w) l2.flatten b/\(∀ w',(Builtin.lenOf (a.eval bi)).run P w'=.ok m w')/\Nat.min m n=l2.length/\(Builtin.firstCells z' l2.length (a.eval bi)).run P w=.ok b.toArray w:=by
  cases i:ev σ.fr ba with
  | ss s2 N K z2 =>
   rw[i] at l;simp only[mN,eM] at l;obtain⟨hq,Y⟩:=nI l;obtain⟨_,rfl⟩:=hq;obtain⟨O,p1,p2⟩:=jj.1 Y;obtain⟨vs,q1,q2,q3,q4,q5⟩:=KI (P:=P) p p1 p2;obtain⟨_,r,R,_⟩:=p.rd hy i;have f:a.eval bi=.slice (some ⟨g.β s2,N,none⟩) K r:=R;refine⟨vs,K,q1,q2,λw'=>by rw[f];rfl,by rw[q4],?_⟩;rw[f,q4];exact q5 K r
  | _ =>
   rw[i] at l;simp only[mN] at l;rw[<- i] at l;obtain⟨b,n1,L,n3,n4,n5⟩:=lG (P:=P) p hy l;exact⟨b,l2.length,n1,L,n4,ad7 V,n5 w.drawn⟩
 obtain⟨b,m,n1,L,n4,x,n5⟩:=B;obtain⟨e0,cp,R,e2,e3,_⟩:=p.rd hx he;have f:a.eval M=.slice (some ⟨g.β so,off,none⟩) n cp:=R;obtain⟨k1,K,_⟩:=p.shr so cells s (cL k);obtain⟨e,ty,fz,h6,u,h7,h8⟩:=K k;have a0:=qM h8;obtain⟨h5,rfl⟩:=mD hp;have v:=L.length;have D:=d7 P (g.β so) off ty fz b 0 e w h6 u (by omega) (eT (S:=λ_ _=>True) (c:=cx E g σ w) L);simp only[rh] at D;have A:(Builtin.copy_ #[J,bj] o.type #[.slice (some ⟨g.β so,off,none⟩) n cp,a.eval bi]).run P w=.ok (goInt l2.length) (w.setRow (g.β so) (e.toList.take off++b++e.toList.drop (off+b.length)).toArray):=by
  have H:(Builtin.firstCells ab.size l2.length (a.eval bi)).run P w=.ok b.toArray w:=by rw[U];exact n5
  simp only[Builtin.copy_];simp [ke ht,n4,x,sizeOf,typeInfo,hi,H,D]
 have y:=p.setShr (cells':=cells.take off++l2.flatten++cells.drop (off+l2.flatten.length)) (arr':=(e.toList.take off++b++e.toList.drop (off+b.length)).toArray) s (cL k) h6 u
  (by simp;omega) h7 (by
   refine pB (by rw[v]) h5 (by simpa using h8) (λj bi hj=>?_);obtain⟨h,h3,h4⟩:=L.get hj
   exact⟨h,h3,(d8 (Z:=cx E g σ w) h4).2⟩)
 refine cO y (I:=.int .i64 l2.length) ?_ λd T=>⟨hd d T,rfl⟩
 simp [execOp,X,resolve,invoke,builtin,f,A,goInt]
def ZU(e:Sim E g σ a w)(hd:∀ d,o.dst=some d->d<E.nt){ej:AR}(s:o.op=.slice J M (some bi) (some ij) none)(hx:okR M C=true)(Y:okR bi ba=true)(V:okR ij ej=true)(Z:P.underlying J=some (.array n bj))(hz:aY P bj=some 1){v:Nat}{gt:IntKind}(T:ev σ.fr C=.ptr q v)(p:ev σ.fr ba=.int O k)(j:ev σ.fr ej=.int gt D)
  (I:0<=k)(X:k<D)(hj:D<=n)(S:σ.sh[q]?=some f)(b:bX f=true)(x:v+n<=f.length):
  o.wp P a w (aS E (put σ o.dst (.ss q (v+k.toNat) (D.toNat-k.toNat) 1))) Q:=by
 obtain⟨B,F⟩:=e.rd hx T;have G:=e.rdNat Y p;have H:=e.rdNat V j;obtain⟨_,u,_⟩:=e.shr q f S (cL b);obtain⟨A,ty,fz,h6,U,K,N⟩:=u b;have R:=qM N;have L:=K.1;obtain⟨av,hi1,l⟩:=dZ hz;obtain⟨k,rfl⟩:=ae4 I;obtain⟨D,rfl⟩:=ae4 (show 0<=D by omega);have y:k<D:=by omega
 have m:D<=n:=by omega
 simp only[jp];have i:(Instr.sliceBounds false n n (some (.int O (k:Int))) (some (.int gt (D:Int))) none).run P w=.ok (k,D,n) w:=by
  have q1:∀ code,(Instr.sliceBound (.int O (k:Int)) D code).run P w=.ok k w:=λcode=>dH (by omega) w
  have q2:∀ code,(Instr.sliceBound (.int gt (D:Int)) n code).run P w=.ok D w:=λcode=>dH m w
  unfold Instr.sliceBounds;simp [q1,q2]
 have r:n≠k:=by omega
 have c:(execOp a.eval o).run P w=.ok (.value (.slice (some ⟨(cx E g σ w).β q,v+k,none⟩) (D-k) (n-k))) w:=by
  simp [execOp,s,F,G,H,Instr.sliceAt,Instr.sureAddr,ke Z,i,sizeOf,typeInfo,hi1,l,dJ,r]
 refine aI e hd c rfl ⟨B,n-k,rfl,by omega,?_,λh=>absurd rfl h⟩;show v+k+(n-k)*1<=g.bs q / 2;omega
def Sim.cutObj(h:Sim E g σ a w){i m:Nat}{cells:List AV}(hi:σ.sh[i]?=some cells)(b:bX cells=true):
  Sim E g { σ with sh:=σ.sh.set i (cells.take m) } a w:=by
 obtain⟨_,f2,_⟩:=h.shr i cells hi (cL b);obtain⟨d,A,o,s,u,y,n⟩:=f2 b;refine h.setObj hi (cL b) rfl (λ_ _=>rfl) rfl rfl rfl (λf k _=>⟨λ_=>⟨d,A,o,s,u,y,λj x c=>?_⟩,?_⟩)
 ·rw[Vz] at c
  split at c
  ·obtain⟨v,q,e⟩:=n j x c
   exact⟨v,q,bO.mono f _ _ (λ_ _ _=>k _ _ _ _) e⟩
  ·cases c
 ·unfold p9
  split
  ·rename_i l r
   exfalso;have p:cells[0]?=some (.mapv l):=by
    have:(cells.take m)[0]?=some (.mapv l):=by rw[r];rfl
    rw[Vz] at this
    split at this
    ·exact this
    ·cases this
   obtain⟨v,_,e⟩:=n 0 _ p;simp [bO,aR,aG] at e
  ·trivial
end
end Go.Av
