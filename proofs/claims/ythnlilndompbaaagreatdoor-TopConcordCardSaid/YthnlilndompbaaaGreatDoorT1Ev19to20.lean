/- A part of the frame. No conditions. -/
import Derived.Test.YthnlilndompbaaaGreatDoorT1Ev14to18
import Derived.Attr
import Derived.IntWalk
open List
set_option linter.all false
set_option maxRecDepth 100000
set_option maxHeartbeats 16000000
def kc:=@List.drop_zero
theorem qb:type_of% @List.take_succ_cons:=rfl
theorem Tv:type_of% @List.take_zero:=rfl
def ab8:=@List.drop_succ_cons
theorem ac5:type_of% @List.getElem?_cons_succ:=rfl
def ad8:=@List.not_mem_nil
def ah8:=@true_or
def ah9:=@or_true
def ak3:=@or_false
def ao1:=@or_self
namespace Go.Av
variable{C ba ej:AR}{D iy k:Int}{K fo:List UInt8}{O gt:IntKind}{T:FuncId->Option AFun}{U d:Bool}{X:AS}{Y:FuncId}{b dc:ACode}{bd c:LL}{bf:Own}{bh f iv zero:List AV}{bq:List AR}{bv h:AV}{ce:Type}{cf:ML}{ck:List (Nat×Nat)}{ct:AOper}{cw:List AOper}{cz:Prop}{dem dj:Option Nat}{dz:List (Nat×AV)}{eh:Option AV}{eq:AFun}{ez:AK}{fe:BinOp}{fg:List ARes}{fu ix:Option (AX×AS)}{gi:AV×LL}{j n q v:Nat}{kill kk ks r:List Nat}{x y:Option AS}
section
variable{G:aP}{l:List (Nat×AV)}{m:List (Nat×Option (List AV))}{sh:LL}
def Nl(d:ce):aF d [] n=d:=(rfl)
def Id(d:ce)(v:ce)(r:List (Nat×ce)):aF d ((n,v)::r) j=if j=n then v else aF d r j:=(rfl)
def Lj(v:ce):fL [] n v=[(n,v)]:=(rfl)
def Gw(v a:ce)(r:List (Nat×ce)):fL ((j,a)::r) n v=if n=j then (n,v)::r else if n<j then (n,v)::(j,a)::r else (j,a)::fL r n v:=(rfl)
def Ig:lO r []=[]:=(rfl)
def Ck:lO kill ((n,h)::dz)=if n∈kill then lO kill dz else (n,cA kill h)::lO kill dz:=(rfl)
def Ir:kD r ([]:List (Nat×ce))=[]:=(rfl)
def Ds(v:ce)(r:List (Nat×ce)):kD kill ((n,v)::r)=if n∈kill then kD kill r else (n,v)::kD kill r:=(rfl)
def Lo:D8 r []=[]:=(rfl)
def He:D8 kill ((n,h)::dz)=(n,cA kill h)::D8 kill dz:=(rfl)
def Sm:sZ n []=[]:=(rfl)
def Jc:sZ n (h::f)=(n,h)::sZ (n+1) f:=(rfl)
attribute[go_sem]Nl Id Lj Gw Ig Ck Ir Ds Lo He Sm Jc
attribute [go_sem] reduceCtorEq Nat.not_lt_zero Nat.lt_one_iff la ad8 ak3 ah9 ao1 false_or ah8 kp kz
def Rg:aJ (.int O D)=.int O D:=(rfl)
def Iu:aJ (.bool d)=.bool d:=(rfl)
def Re:aJ (.str K)=.str K:=(rfl)
def Is:aJ .nilp=.nilp:=(rfl)
def Rf:aJ (.ptr n j)=.ptr n j:=(rfl)
def Rh:aJ (.agg f)=.agg f:=(rfl)
def Rd:aJ (.tup f)=.tup f:=(rfl)
def Vv:aJ (.ss j q n v)=.ss j q n v:=(rfl)
def Vw:aJ (.mp n)=.mp n:=(rfl)
def Vx:aJ (.fn Y bh)=.fn Y bh:=(rfl)
def Ku:fV (.int O D)=.int O D:=(rfl)
def Gs:fV (.bool d)=.bool d:=(rfl)
def Kt:fV (.str K)=.str K:=(rfl)
def Kv:fV (.agg f)=.agg f:=(rfl)
def Tq:fV (.ss j q n v)=.ss j q n v:=(rfl)
def Ts:fV (.fn Y bh)=.fn Y bh:=(rfl)
def Tr:fV (.sl bf n c)=.sl .no n c:=(rfl)
def qk:cI n (.agg f)=if f.length=n then some f else none:=(rfl)
def qj:cI 1 (.int O D)=some [.int O D]:=(rfl)
def YX:cI 1 (.bool d)=some [.bool d]:=(rfl)
def qg:cI 1 (.str K)=some [.str K]:=(rfl)
def qh:cI 1 (.sl .no n c)=some [.sl .no n c]:=(rfl)
def qi:cI 1 (.sl .full n (f::c))=some [.sl .no n (f::c)]:=(rfl)
def qn:dI n (.agg f)=if f.length=n then some f else none:=(rfl)
def qm:dI 1 (.int O D)=some [.int O D]:=(rfl)
def YY:dI 1 (.bool d)=some [.bool d]:=(rfl)
def ql:dI 1 (.str K)=some [.str K]:=(rfl)
def xt:dI 1 (.sl bf n c)=some [.sl .no n c]:=(rfl)
def xq:dI 1 (.ss n j q v)=some [.ss n j q v]:=(rfl)
def YZ:dI n (.aggR f)=if f.length=n/\f.all frB=true then some f else none:=(rfl)
def Jf:List.all [] frB=true:=(rfl)
def Et:List.all (h::f) frB=(frB h&&List.all f frB):=(rfl)
def Vm:frB (.int O D)=true:=(rfl)
def Qj:frB (.sl .full n c)=true:=(rfl)
def zAD:frB (.mp n)=true:=(rfl)
def zAC:frB (.ss n j q v)=true:=(rfl)
def xu:dI 1 (.mp n)=some [.mp n]:=(rfl)
def Ad:cA r (.int O D)=.int O D:=(rfl)
def vg:cA r (.bool d)=.bool d:=(rfl)
def Aa:cA r (.str K)=.str K:=(rfl)
def vf:cA r .nilp=.nilp:=(rfl)
def Ab:cA r (.ptr n j)=.ptr n j:=(rfl)
def Ac:cA r (.loc n j)=if n∈r then .any else .loc n j:=(rfl)
def Ae:cA r (.agg f)=.agg f:=(rfl)
def Ha:cA r (.ss j q n v)=.ss j q n v:=(rfl)
def Hc:cA r (.mp n)=.mp n:=(rfl)
def Hd:cA r (.fn Y bh)=.fn Y bh:=(rfl)
def Hb:cA r (.sl bf n c)=.sl bf n c:=(rfl)
attribute[go_sem]Rg Iu Re Is Rf Rh Rd Vv Vw Vx Ku Gs Kt Kv Tq Ts Tr qk qj YX qg qh qi qn qm YY ql xt xq YZ Jf Et Vm Qj zAD zAC xu Ad vg Aa vf Ab Ac Ae Ha Hc Hd Hb
noncomputable def GI(G:aP)(r:Option (AX×AS))(b:ACode):Option (AX×AS):=match r with
 | some (.norm,σ')=>aC G b σ'
 | r=>r
def pX(id:Nat)(r:Option (AX×AS)):Option (AX×AS):=match r with
 | some (.ex i,σ')=>if i=id then some (.norm,σ') else some (.ex i,σ')
 | r=>r
def KM(kill:List Nat)(r:Option AS):Option (AX×AS):=r.map λσ'=>(.norm,forget kill σ')
def QB(G:aP)(r:Option AS)(os:List AOper):Option AS:=r.bind (dF G os)
noncomputable def xo(G:aP)(v:AV)(a b:ACode)(σ:AS):Option (AX×AS):=match v with
 | .bool t=>if t then aC G a σ else aC G b σ
 | _=>none
def zAY:aC G .skip X=some (.norm,X):=(rfl)
def zBS:aC G .ret X=some (.ret,X):=(rfl)
def zBB:aC G (.exit n) X=some (.ex n,X):=(rfl)
def zBR:aC G (.seq dc b) X=GI G (aC G dc X) b:=(rfl)
def Ws:aC G (.block n dc) X=pX n (aC G dc X):=(rfl)
def zBA:aC G (.reg d [] cw r) X=KM r (dF G cw X):=by
 show (dF G cw (scrub [] X)).map _=_;rw[CK];rfl
def zAZ:aC G (.reg d (n::r) cw kill) (ST l m sh)=KM kill (dF G cw (ST (D8 (n::r) l) (kD (n::r) m) sh)):=by
 show (dF G cw (scrub (n::r) _)).map _=_;rw[TL];rfl
def zBC:aC G (.cond C dc b) (ST l m sh)=xo G (ev (aF .any l) C) dc b (ST l m sh):=(rfl)
def Ea:xo G (.bool d) dc b X=if d then aC G dc X else aC G b X:=(rfl)
def Gy:GI G (some (.norm,X)) dc=aC G dc X:=(rfl)
def Ud:GI G (some (.ex n,X)) dc=some (.ex n,X):=(rfl)
def Lm:GI G (some (.ret,X)) dc=some (.ret,X):=(rfl)
def Gz:GI G none dc=none:=(rfl)
def Ln[Decidable cz]:GI G (if cz then fu else ix) dc=if cz then GI G fu dc else GI G ix dc:=by split<;>rfl
def xy:pX n (some (.norm,X))=some (.norm,X):=(rfl)
def El:pX n (some (.ret,X))=some (.ret,X):=(rfl)
def Jb:pX n (some (.ex j,X))=if j=n then some (.norm,X) else some (.ex j,X):=(rfl)
def xz:pX n none=none:=(rfl)
def Em[Decidable cz]:pX n (if cz then fu else ix)=if cz then pX n fu else pX n ix:=by split<;>rfl
def Hr:KM r (some (ST l m sh))=some (.norm,ST (lO r l) (kD r m) sh):=by
 show some (AX.norm,forget r (ST l m sh))=_;rw[wQ]
def Hs:KM r none=none:=(rfl)
def Lx[Decidable cz]:KM r (if cz then x else y)=if cz then KM r x else KM r y:=by split<;>rfl
def Lr:dF G [] X=some X:=(rfl)
def Hh:dF G (ct::cw) X=QB G (cM G ct X) cw:=(rfl)
def Hf:QB G (some X) cw=dF G cw X:=(rfl)
def Hg:QB G none cw=none:=(rfl)
def Lq[Decidable cz]:QB G (if cz then x else y) cw=if cz then QB G x cw else QB G y cw:=by split<;>rfl
attribute[go_sem]zAY zBS zBB zBR Ws zBA zAZ zBC Ea Gy Ud Lm Gz Ln xy El Jb xz Em Hr Hs Lx Lr Hh Hf Hg Lq
noncomputable def Nk(G:aP)(kill:List Nat)(a:ACode)(r:Option (AX×AS)):Option (AX×AS):=match r with
 | some (.norm,σ')=>aC G (.loop kill a) σ'
 | r=>r
def Ev:aC G (.loop r dc) (ST l m sh)=Nk G r dc (aC G dc (ST (lO r l) (kD r m) sh)):=by
 rw[<- wQ];show AN _ _=_;rw[@AM SK];rfl
def opX(G:aP)(dst:Option Nat)(k:AK)(args:List AR)(ml:ML)(dem:Option Nat)(σ:AS):Option AS:=
 match kf G (dst.getD 0) ml k (args.map (ev σ.fr)) (rdm σ ml) with
 | some (v,m)=>some (put (dT (wrm σ m ml) dem) dst v)
 | none=>none
def E4(G:aP)(g:AV)(a:Bool)(dst:Option Nat)(k:AK)(args:List AR)(ml:ML)(dem:Option Nat)(σ:AS):Option AS:=
 match g with
 | .bool b=>if b=a then opX G dst k args ml dem σ else some (put σ dst .undef)
 | .undef=>some (put σ dst .undef)
 | _=>none
def ze:cM G ⟨dj,ez,bq,cf,dem,none⟩ X=opX G dj ez bq cf dem X:=(rfl)
def zg:cM G ⟨dj,ez,bq,cf,dem,some (n,d)⟩ (ST l m sh)=E4 G (aF .any l n) d dj ez bq cf dem (ST l m sh):=by
 unfold cM E4;simp only[fY,yh]
 cases aF AV.any l n with
 | bool c=>cases c<;>cases d<;>rfl
 | _=>rfl
def xh:E4 G (.bool d) U dj ez bq cf dem X=if d=U then opX G dj ez bq cf dem X else some (put X dj .undef):=(rfl)
def pe:E4 G .undef d dj ez bq cf dem X=some (put X dj .undef):=(rfl)
attribute[go_sem]ze zg xh pe
attribute [go_sem] iK T6
def ev_t(f:Nat->AV):ev f (.t n)=f n:=(rfl)
def ev_c(f:Nat->AV):ev f (.c h)=h:=(rfl)
def zBG:opX G (some n) .mv [C] .none none (ST l m sh)=some (ST (fL l n (aJ (ev (aF .any l) C))) m sh):=by
 show some (put (ST l m sh) (some n) _)=_;rw[iK];rfl
def Yy:opX G (some n) .mvo [.t j] .none (some j) (ST l m sh)=some (ST (fL (fL l j (aJ (aF .any l j))) n (aF .any l j)) m sh):=by
 show some (put (dT (ST l m sh) (some j)) (some n) _)=_;rw[FG,iK];rfl
attribute[go_sem]ev_t ev_c zBG Yy
def gB(d:Nat)(l:List (Nat×AV))(m:List (Nat×Option (List AV)))(sh:LL)(v:Option AV):Option AS:=v.map λv=>ST (fL l d v) m sh
def Ho:gB n l m sh (some h)=some (ST (fL l n h) m sh):=(rfl)
def Hp:gB n l m sh none=none:=(rfl)
def Lw[Decidable cz](io:Option AV):gB n l m sh (if cz then eh else io)=if cz then gB n l m sh eh else gB n l m sh io:=by split<;>rfl
attribute[go_sem]Ho Hp Lw
def c8(h:kf G n .none ez (bq.map (ev (aF .any l))) (none,[])=eh.map λv=>(v,(none,[]))):opX G (some n) ez bq .none none (ST l m sh)=gB n l m sh eh:=by
 unfold opX;have a:kf G ((some n).getD 0) .none ez (bq.map (ev (ST l m sh).fr)) (rdm (ST l m sh) .none)=eh.map λv=>(v,(none,[])):=h
 rw[a]
 cases eh with
 | none=>rfl
 | some v =>
  show some (put (ST l m sh) (some n) v)=_;rw[iK];rfl
def vv:AV->AV->AV->Option AV
 | .bool c,a,b=>some (aJ (if c then a else b))
 | _,_,_=>none
def Aw:vv (.bool d) h bv=some (if d then aJ h else aJ bv):=by cases d<;>rfl
def Un:opX G (some n) .pick [C,ba,ej] .none none (ST l m sh)=gB n l m sh (vv (ev (aF .any l) C) (ev (aF .any l) ba) (ev (aF .any l) ej)):=by
 apply c8;simp only[ju,kh,kf]
 cases ev (aF AV.any l) C<;>rfl
def Zp:opX G (some n) (.bin fe) [C,ba] .none none (ST l m sh)=gB n l m sh (gF fe (ev (aF .any l) C) (ev (aF .any l) ba)):=by
 apply c8;simp only[ju,kh,kf,kf0]
attribute[go_sem]Aw Un Zp
def Pu:AV->Option AV
 | .sl _ _ (_::_)=>some (.bool false)
 | _=>none
def Vi:Pu (.sl bf n (f::c))=some (.bool false):=(rfl)
def Zj:opX G (some n) .isn [C] .none none (ST l m sh)=gB n l m sh (Pu (ev (aF .any l) C)):=by
 apply c8;simp only[ju,kh,kf]
 cases ev (aF AV.any l) C with
 | sl o z q=>cases q<;>rfl
 | _=>rfl
attribute[go_sem]Vi Zj
def unA:UnOp->AV->Option AV
 | .neg,.int k n=>some (.int k (k.wrap (0-n)))
 | .not,.bool b=>some (.bool !b)
 | _,_=>none
def zy(ne:Bool)(ks:List Nat):AV->AV->Option AV
 | .agg x,.agg y=>(eqL ks x y).map λb=>.bool (if ne then !b else b)
 | _,_=>none
def Ue:zy true r (.agg f) (.agg bh)=(eqL r f bh).map λb=>.bool !b:=(rfl)
def Vq:eqL [] [] []=some true:=(rfl)
def Vr:eqL (0::ks) (.int O D::f) (.int O iy::bh)=(eqL ks f bh).map λr=>decide (D=iy)&&r:=by
 simp only[eqL,kp];rfl
def Qq:eqL (1::ks) (.bool d::f) (.bool U::bh)=(eqL ks f bh).map λr=>(d==U)&&r:=(rfl)
def Vp:eqL (2::ks) (.str K::f) (.str fo::bh)=(eqL ks f bh).map λr=>(K==fo)&&r:=(rfl)
def Yw:opX G (some n) (.seq U r) [C,ba] .none none (ST l m sh)=gB n l m sh (zy U r (ev (aF .any l) C) (ev (aF .any l) ba)):=by
 apply c8;simp only[ju,kh,kf];cases a:ev (aF AV.any l) C<;>cases b:ev (aF AV.any l) ba<;>try rfl
 simp only[kf0,zy,ac4];rfl
def Tp:unA .not (.bool d)=some (.bool !d):=(rfl)
def zBE(op:UnOp):opX G (some n) (.un op) [C] .none none (ST l m sh)=gB n l m sh (unA op (ev (aF .any l) C)):=by
 apply c8;simp only[ju,kh,kf]
 cases op<;>cases ev (aF AV.any l) C<;>rfl
attribute[go_sem]Ue Vq Vr Qq Vp Yw Tp zBE
def H0(str:Bool)(v:AV):Option AV:=match str,v with
 | false,.sl _ _ x=>some (.int .i64 x.length)
 | false,.ss _ _ n _=>some (.int .i64 n)
 | true,.str s=>some (.int .i64 s.length)
 | _,_=>none
def Nr:H0 false (.ss j q n v)=some (.int .i64 n):=(rfl)
def Ns:H0 false (.sl bf n c)=some (.int .i64 c.length):=(rfl)
def Ie:H0 true (.str K)=some (.int .i64 K.length):=(rfl)
def Zf:opX G (some n) (.len U) [C] .none none (ST l m sh)=gB n l m sh (H0 U (ev (aF .any l) C)):=by
 apply c8;simp only[ju,kh,kf]
 cases U<;>cases ev (aF AV.any l) C<;>rfl
attribute[go_sem]Nr Ns Ie Zf
def mmA(b:Bool):AV->AV->Option AV
 | .int k x,.int k' y=>if k=k' then some (.int k (if b then (if x<y then y else x) else (if y<x then y else x))) else none
 | _,_=>none
def Uw:mmA true (.int O D) (.int O iy)=some (.int O (max D iy)):=by
 simp only[mmA,kp,jc,AV.int.injEq,tn];split<;>omega
def Uv:mmA false (.int O D) (.int O iy)=some (.int O (min D iy)):=by
 simp only[mmA,kp,jl,kz,jc,AV.int.injEq,tn];split<;>omega
def zBH:opX G (some j) (.mm U) [C,ba] .none none (ST l m sh)=gB j l m sh (mmA U (ev (aF .any l) C) (ev (aF .any l) ba)):=by
 apply c8;simp only[ju,kh,kf];cases a:ev (aF AV.any l) C<;>cases b:ev (aF AV.any l) ba<;>try rfl
 rename_i k n k' n';simp only[kf0,mmA]
 split<;>rfl
attribute[go_sem]Uw Uv zBH
def wj:AV->Option AV
 | .ptr a b=>some (.ptr a b)
 | .loc a b=>some (.loc a b)
 | .ip x=>some (.ip x)
 | _=>none
def Ia:wj (.ptr n j)=some (.ptr n j):=(rfl)
def Uo:opX G (some n) .nilc [C] .none none (ST l m sh)=gB n l m sh (wj (ev (aF .any l) C)):=by
 apply c8;simp only[ju,kh,kf]
 cases ev (aF AV.any l) C<;>rfl
attribute[go_sem]Ia Uo
def faA(off:Nat):AV->Option AV
 | .loc s o=>some (.loc s (o+off))
 | .ptr i o=>some (.ptr i (o+off))
 | .ip x=>some (.ip (x.drop off))
 | _=>none
def Vo:faA n (.loc j q)=some (.loc j (q+n)):=(rfl)
def Vn:faA n (.ptr j q)=some (.ptr j (q+n)):=(rfl)
def zAE:faA n (.ip f)=some (.ip (f.drop n)):=(rfl)
def zBK:opX G (some n) (.fa j) [C] .none none (ST l m sh)=gB n l m sh (faA j (ev (aF .any l) C)):=by
 apply c8;simp only[ju,kh,kf]
 cases ev (aF AV.any l) C<;>rfl
attribute[go_sem]Vo Vn zAE zBK
def iaK(z:Nat):AV->AV->Option AV
 | .sl _ a x,.int _ i=>if a=z/\0<=i then (x[i.toNat]?).map .ip else none
 | .ss o off n a,.int _ i=>if a=z/\0<=i/\i<n then some (.ptr o (off+i.toNat*z)) else none
 | _,_=>none
def zAA:iaK j (.ss q v n j) (.int O D)=if 0<=D/\D<n then some (.ptr q (v+D.toNat*j)) else none:=by simp [iaK]
attribute[go_sem]zAA
def zAB:iaK n (.sl bf n c) (.int O D)=if 0<=D then (c[D.toNat]?).map .ip else none:=by simp [iaK]
def zBJ:opX G (some n) (.ia j) [C,ba] .none none (ST l m sh)=gB n l m sh (iaK j (ev (aF .any l) C) (ev (aF .any l) ba)):=by
 apply c8;simp only[ju,kh,kf];cases a:ev (aF AV.any l) C<;>cases b:ev (aF AV.any l) ba<;>try rfl
 all_goals
  simp only[kf0,iaK];split
  ·first | rfl | (simp only[ac4];rfl)
  ·rfl
attribute[go_sem]zAB zBJ
def pb(z len:Nat):AV->AV->Option AV
 | a,.int _ i=>if 0<=i/\i<len then
   (match a with
   | .loc s o=>some (.loc s (o+i.toNat*z))
   | .ptr p o=>some (.ptr p (o+i.toNat*z))
   | .ip x=>some (.ip (x.drop (i.toNat*z)))
   | _=>none) else none
 | _,_=>none
def Py:pb n j (.loc q v) (.int O D)=if 0<=D/\D<j then some (.loc q (v+D.toNat*n)) else none:=(rfl)
def Vj:pb n j (.ip f) (.int O D)=if 0<=D/\D<j then some (.ip (f.drop (D.toNat*n))) else none:=(rfl)
def Zk:opX G (some n) (.iaA j q) [C,ba] .none none (ST l m sh)=gB n l m sh (pb j q (ev (aF .any l) C) (ev (aF .any l) ba)):=by
 apply c8;simp only[ju,kh,kf];cases a:ev (aF AV.any l) C<;>cases b:ev (aF AV.any l) ba<;>try rfl
 all_goals
  simp only[kf0,pb]
  split<;>rfl
attribute[go_sem]Py Vj Zk
def Cp:AV->AV->Option AV
 | .str s,.int _ i=>if 0<=i then (s[i.toNat]?).map λb=>.int .u8 (b.toNat:Int) else none
 | _,_=>none
def Pr:Cp (.str K) (.int O D)=if 0<=D then (K[D.toNat]?).map λb=>.int .u8 (b.toNat:Int) else none:=(rfl)
def Zh:opX G (some n) .ixs [C,ba] .none none (ST l m sh)=gB n l m sh (Cp (ev (aF .any l) C) (ev (aF .any l) ba)):=by
 apply c8;simp only[ju,kh,kf];cases a:ev (aF AV.any l) C<;>cases b:ev (aF AV.any l) ba<;>try rfl
 simp only[kf0,Cp];split
 ·simp only[ac4];rfl
 ·rfl
def Um:opX G (some n) (.slc U j true false) [C,ba] .none none (ST l m sh)=gB n l m sh (aZ U j (ev (aF .any l) C) (some (ev (aF .any l) ba)) none):=by
 apply c8;simp only[ju,kh,kf,kf0]
def Ul:opX G (some n) (.slc U j false true) [C,ba] .none none (ST l m sh)=gB n l m sh (aZ U j (ev (aF .any l) C) none (some (ev (aF .any l) ba))):=by
 apply c8;simp only[ju,kh,kf,kf0]
def Uk:opX G (some n) (.slc U j true true) [C,ba,ej] .none none (ST l m sh)=gB n l m sh (aZ U j (ev (aF .any l) C) (some (ev (aF .any l) ba)) (some (ev (aF .any l) ej))):=by
 apply c8;simp only[ju,kh,kf,kf0]
def Mr:opX G (some n) (.build zero ck) bq .none none (ST l m sh)=gB n l m sh ((gN zero ck (bq.map (ev (aF .any l)))).map .agg):=by
 apply c8;simp only[kf,kf0,ac4];rfl
def Hx:opX G (some n) (.buildR zero ck) bq .none none (ST l m sh)=gB n l m sh ((oW zero ck (bq.map (ev (aF .any l)))).map .aggR):=by
 apply c8;simp only[kf,kf0,ac4];rfl
attribute[go_sem]Pr Zh Um Ul Uk Mr Hx
def gX(z:Nat)(zero:List AV)(len:Nat)(pl:List Nat)(xs:List AV):Option AV:=
 (gN (bB zero len) (pl.map λi=>(i*z,z)) xs).map λcs=>.sl .full z (cP z len cs)
def Za:opX G (some n) (.mks j zero q r) bq .none none (ST l m sh)=gB n l m sh (gX j zero q r (bq.map (ev (aF .any l)))):=by
 apply c8;simp only[kf,kf0,gX,ac4];rfl
attribute[go_sem]Za
def iN(str:Bool)(z bytes:Nat):AV->AV->Option AV
 | .sl md a x,y=>(jZ str z y).bind λl2=>if (a=z\/(x=[]/\md=.full))/\md≠.no/\0<z/\(x.length+l2.length)*bytes<=140737488355328/\x.length+l2.length<=4611686018427387904 then some (.sl .own z (x++l2)) else none
 | _,_=>none
def XQ(d:Nat)(str:Bool)(z bytes:Nat):kf G d .none (.app str z bytes) [h,bv] (none,[])=(iN str z bytes h bv).map λbv=>(bv,(none,[])):=by
 simp only[kf]
 cases h<;>try rfl
 simp only[kf0,iN]
 cases jZ str z bv with
 | none=>rfl
 | some l2 =>
  simp only[jk]
  split<;>rfl
def Zr(R:Nat):opX G (some n) (.app U q R) [.t j,C] .none (some j) (ST l m sh)=gB n (fL l j (aJ (aF .any l j))) m sh (iN U q R (aF .any l j) (ev (aF .any l) C)):=by
 unfold opX;have a:kf G ((some n).getD 0) .none (.app U q R) ([AR.t j,C].map (ev (ST l m sh).fr)) (rdm (ST l m sh) .none)=(iN U q R (aF .any l j) (ev (aF .any l) C)).map λv=>(v,(none,[])):=XQ n U q R
 rw[a]
 cases iN U q R (aF .any l j) (ev (aF .any l) C) with
 | none=>rfl
 | some v =>
  show some (put (dT (ST l m sh) (some j)) (some n) v)=_;rw[FG,iK];rfl
def Ur:opX G (some n) (.app U j q) [.c h,C] .none none (ST l m sh)=gB n l m sh (iN U j q h (ev (aF .any l) C)):=
 c8 (XQ n U j q)
attribute[go_sem]Zr Ur
def Qo(i:Nat):AV->Option AV
 | .tup x=>x[i]?
 | _=>none
def Qn:Qo n (.tup f)=f[n]?:=(rfl)
def Zl:opX G (some n) (.ext j) [C] .none none (ST l m sh)=gB n l m sh (Qo j (ev (aF .any l) C)):=by
 apply c8;simp only[ju,kh,kf]
 cases ev (aF AV.any l) C<;>rfl
attribute[go_sem]Qn Zl
def Bh(f:FuncId)(caps:List AV):Option AV:=if caps.all (B6 true) then some (.fn f caps) else none
def Zd:opX G (some n) (.mkf Y) bq .none none (ST l m sh)=gB n l m sh (Bh Y (bq.map (ev (aF .any l)))):=by
 apply c8;simp only[kf,kf0,Bh];by_cases h:((bq.map (ev (aF AV.any l))).all (B6 true))=true
 ·rw[iw h,iw h];rfl
 ·rw[ie h,ie h];rfl
attribute[go_sem]Zd
def vd:iW false n 1 f=f[n]?:=by
 unfold iW;simp only[jl,kz];cases h:f.drop n with
 | nil =>
  have:f[n]?=none:=by
   rw[ls]
   have:=pz List.length h
   simp at this;omega
  rw[this];rfl
 | cons a r =>
  have:f[n]?=some a:=by
   have b:(f.drop n)[0]?=some a:=by rw[h];rfl
   rw[tb] at b;simpa using b
  rw[this];rfl
def zd:iW true j n f=if ((f.drop j).take n).length=n then some (.agg ((f.drop j).take n)) else none:=(rfl)
attribute[go_sem]vd zd
attribute [go_sem] getElem?_cons_zero ac5 kc ab8 qb Tv
def Ms:opX G (some n) (.alloc zero) [] (.lo n) none (ST l m sh)=if (aF none m n).isNone then some (ST (fL l n (.loc n 0)) (fL m n (some zero)) sh) else none:=by
 unfold opX;simp only[kh,kf,kf0,KN,aj5,tn];by_cases h:(aF none m n).isNone=true
 ·rw[iw h,iw h]
  show some (put (dT (wrm (ST l m sh) _ _) none) (some n) _)=_;rw[JY,nP,iK]
 ·rw[ie h,ie h]
def Hy:opX G (some n) (.allocS zero) [] .sh none (ST l m sh)=some (ST (fL l n (.ptr sh.length 0)) m (sh++[zero])):=by
 unfold opX;simp only[kh,kf,kf0,lH,kp];rw[RW,nP,iK]
attribute[go_sem]Ms Hy
def Ej(d:Nat)(l:List (Nat×AV))(m:List (Nat×Option (List AV)))(sh:LL):Option (List AV)->Option AS
 | some cs=>if (aF none m d).isNone then some (ST (fL l d (.loc d 0)) (fL m d (some cs)) sh) else none
 | none=>none
def Ja:Ej n l m sh (some f)=if (aF none m n).isNone then some (ST (fL l n (.loc n 0)) (fL m n (some f)) sh) else none:=(rfl)
def Zo:opX G (some j) (.box n) [C] (.lo j) none (ST l m sh)=Ej j l m sh (cI n (ev (aF .any l) C)):=by
 unfold opX;simp only[ju,kh,kf,kf0,KN,aj5,tn,mU]
 cases cI n (ev (aF AV.any l) C) with
 | none=>simp only[wn,ite_self];rfl
 | some cs =>
  simp only[jq,Ej];by_cases h:(aF none m j).isNone=true
  ·rw[iw h,iw h]
   show some (put (dT (wrm (ST l m sh) _ _) none) (some j) _)=_;rw[JY,nP,iK]
  ·rw[ie h,ie h]
attribute[go_sem]Ja Zo
def xx(d:Nat)(l:List (Nat×AV))(m:List (Nat×Option (List AV)))(sh:LL):Option (List AV)->Option AS
 | some cs=>some (ST (fL l d (.ptr sh.length 0)) m (sh++[cs]))
 | none=>none
def Ek:xx n l m sh (some f)=some (ST (fL l n (.ptr sh.length 0)) m (sh++[f])):=(rfl)
def Up:opX G (some j) (.boxS n) [C] .sh none (ST l m sh)=xx j l m sh (cI n (ev (aF .any l) C)):=by
 unfold opX;simp only[ju,kh,kf,kf0,lH,kp,mU]
 cases cI n (ev (aF AV.any l) C) with
 | none=>rfl
 | some cs =>
  show some (put (dT (wrm (ST l m sh) _ _) none) (some j) _)=_;rw[RW,nP,iK];rfl
attribute[go_sem]Ek Up
def kQ:List AV->Option (List AV)
 | []=>some []
 | x::xs=>if aQ (aJ x)=true then (kQ xs).map (aJ x :: ·) else none
def IJ:∀ (x:List AV),kQ x=if x.all (λy=>aQ (aJ y))=true then some (x.map aJ) else none
 | []=>rfl
 | x::xs=>by
  simp only[kQ,IJ xs,ad0,ju];by_cases h:aQ (aJ x)=true
  ·rw[iw h]
   simp only[h,jx]
   split<;>rfl
  ·rw[ie h]
   have:aQ (aJ x)=false:=by simpa using h
   simp [this]
def Vf:ldV (.int O D)=some (.int O D):=(rfl)
def Nz:ldV (.bool d)=some (.bool d):=(rfl)
def Ve:ldV (.str K)=some (.str K):=(rfl)
def Zw:ldV (.ss n j q v)=some (.ss n j q v):=(rfl)
def Zy:ldV (.mp n)=some (.mp n):=(rfl)
def Zx:ldV (.sl .no n c)=some (.sl .no n c):=(rfl)
def Ny:ldV (.sl .full n c)=some (.sl .full n c):=(rfl)
def Il:kQ []=some []:=(rfl)
def In:kQ (.int O D::f)=(kQ f).map (.int O D :: ·):=(rfl)
def Dg:kQ (.bool d::f)=(kQ f).map (.bool d :: ·):=(rfl)
def Ik:kQ (.str K::f)=(kQ f).map (.str K :: ·):=(rfl)
def Qk:kQ (.sl .no n c::f)=(kQ f).map (.sl .no n c :: ·):=(rfl)
def Df:kQ (.sl .full n c::f)=(kQ f).map (.sl .full n c :: ·):=(rfl)
def If:ldC false j n f=(f[j]?).bind ldV:=by
 unfold ldC;simp only[jl,kz];cases f[j]?<;>rfl
def Oa:ldC true j n f=if ((f.drop j).take n).length=n then (kQ ((f.drop j).take n)).map .agg else none:=by
 unfold ldC;rw[iw rfl,IJ];by_cases a:((f.drop j).take n).length=n
 ·rw[iw a]
  by_cases b:((f.drop j).take n).all (λf=>aQ (aJ f))=true
  ·rw[iw ⟨a,b⟩,iw b];rfl
  ·rw[ie (λh=>b h.2),ie b];rfl
 ·rw[ie (λh=>a h.1),ie a]
attribute[go_sem]Vf Nz Ve Zw Zy Zx Ny Il In Dg Ik Qk Df If Oa
def ldA(ml:ML)(agg:Bool)(n:Nat)(m:List (Nat×Option (List AV)))(sh:LL):AV->Option AV
 | .loc s off=>if ml=.lo s then (aF none m s).bind λcells=>ldC agg off n cells else none
 | .ptr o off=>if ml=.sh then (sh[o]?).bind λcells=>ldC agg off n cells else none
 | .ip cells=>iW agg 0 n cells
 | _=>none
def Vh:ldA (.lo j) d n m sh (.loc j q)=(aF none m j).bind λcells=>ldC d q n cells:=by simp [ldA]
attribute[go_sem]Vh
def Vg:ldA .sh d n m sh (.ptr j q)=(sh[j]?).bind λcells=>ldC d q n cells:=by simp [ldA]
def Zz:ldA cf d n m sh (.ip f)=iW d 0 n f:=(rfl)
attribute[go_sem]Vg Zz
def pI(ml:ML)(d:Nat)(v:AV):(some (put (dT (wrm (ST l m sh) (rdm (ST l m sh) ml) ml) none) (some d) v):Option AS)=gB d l m sh (some v):=by
 rw[@ME SK,nP,iK];rfl
def zBI:opX G (some j) (.ld U n) [C] cf none (ST l m sh)=gB j l m sh (ldA cf U n m sh (ev (aF .any l) C)):=by
 unfold opX;have key:=λv=>pI (l:=l) (m:=m) (sh:=sh) cf j v
 simp only[ju,kh,kf,kf0,mU];cases c:ev (aF AV.any l) C<;>simp only[ldA]<;>try rfl
 ·rename_i o off
  by_cases a:cf=.sh
  ·subst a
   simp only[kp,lH]
   cases sh[o]? with
   | none=>rfl
   | some cells =>
    simp only[jk]
    cases ldC U off n cells with
    | none=>rfl
    | some v=>exact key v
  ·simp only[a,kz];rfl
 ·rename_i s off
  by_cases a:cf=.lo s
  ·subst a
   rw[iw rfl,iw rfl];have b:(rdm (ST l m sh) (.lo s)).1=aF none m s:=rfl;rw[b]
   cases aF none m s with
   | none=>rfl
   | some cells =>
    simp only[jk]
    cases ldC U off n cells with
    | none=>rfl
    | some v=>exact key v
  ·simp only[a,kz];rfl
 ·cases iW U 0 n _ with
  | none=>rfl
  | some v=>exact key v
def Si:bX (.int O D::f)=true:=(rfl)
def Sh:bX (.str K::f)=true:=(rfl)
def Wb:bX (.sl bf n c::f)=true:=(rfl)
attribute[go_sem]zBI Si Sh Wb
def stX(ml:ML)(_:Nat)(l:List (Nat×AV))(m:List (Nat×Option (List AV)))(sh:LL):AV->Option (List AV)->Option AS
 | .loc s off,some cs=>if ml=.lo s then (aF none m s).bind λcells=>(gR off cs cells).map λc'=>ST l (fL m s (some c')) sh else none
 | .ptr o off,some cs=>if ml=.sh then (sh[o]?).bind λcells=>if bX cells=true then (gR off cs cells).map λc'=>ST l m (sh.set o c') else none else none
 | _,_=>none
def Tu:stX (.lo j) n l m sh (.loc j q) (some f)=(aF none m j).bind λcells=>(gR q f cells).map λc'=>ST l (fL m j (some c')) sh:=by simp [stX]
attribute[go_sem]Tu
def Tt:stX .sh n l m sh (.ptr j q) (some f)=(sh[j]?).bind λcells=>if bX cells=true then (gR q f cells).map λc'=>ST l m (sh.set j c') else none:=by simp [stX]
def zBF:opX G none (.st n) [C,ba] cf none (ST l m sh)=stX cf n l m sh (ev (aF .any l) C) (dI n (ev (aF .any l) ba)):=by
 unfold opX;simp only[ju,kh,kf,kf0,mU];cases e:dI n (ev (aF AV.any l) ba) with
 | none =>
  have c:∀ {α β:Type} (o:Option α),(o.bind λ_=>(none:Option β))=none:=λo=>by cases o<;>rfl
  cases ev (aF AV.any l) C<;>simp only[stX,ve,c,ite_self]<;>rfl
 | some cs =>
  cases d:ev (aF AV.any l) C<;>simp only[stX,jk]<;>try rfl
  ·rename_i o off
   by_cases a:cf=.sh
   ·subst a
    simp only[kp,lH]
    cases sh[o]? with
    | none=>rfl
    | some cells =>
     simp only[jk];by_cases b:bX cells=true
     ·rw[iw b,iw b]
      cases gR off cs cells<;>rfl
     ·rw[ie b,ie b]
   ·simp only[a,kz]
  ·rename_i s off
   by_cases a:cf=.lo s
   ·subst a
    simp only[kp,KN]
    cases aF none m s with
    | none=>rfl
    | some cells =>
     simp only[jk]
     cases gR off cs cells with
     | none=>rfl
     | some c' =>
      show some (put (dT (wrm (ST l m sh) _ (.lo s)) none) none _)=_;rw[JY];rfl
   ·simp only[a,kz]
attribute[go_sem]Tt zBF
def ED(d:Nat)(l:List (Nat×AV))(m:List (Nat×Option (List AV)))(r:Option (AV×LL)):Option AS:=r.map λr=>ST (fL l d r.1) m r.2
def Hq:ED n l m (some (h,c))=some (ST (fL l n h) m c):=(rfl)
attribute[go_sem]Hq
def KT{r:Option (AV×LL)}(h:kf G n .sh ez (bq.map (ev (aF .any l))) (none,sh)=r.map λv=>(v.1,(none,v.2))):opX G (some n) ez bq .sh none (ST l m sh)=ED n l m r:=by
 unfold opX;have a:kf G ((some n).getD 0) .sh ez (bq.map (ev (ST l m sh).fr)) (rdm (ST l m sh) .sh)=r.map λv=>(v.1,(none,v.2)):=h
 rw[a]
 cases r with
 | none=>rfl
 | some v =>
  show some (put (ST l m v.2) (some n) v.1)=_;rw[iK];rfl
def Ah(sh:LL):AV->Option (AV×LL)
 | .str s=>if s.length<=140737488355328 then some (.ss sh.length 0 s.length 1,sh++[s.map λb=>.int .u8 (b.toNat:Int)]) else none
 | _=>none
def d6(s:List UInt8):List AV:=s.map λb=>.int .u8 (b.toNat:Int)
def Lp:Ah sh (.str K)=if K.length<=140737488355328 then some (.ss sh.length 0 K.length 1,sh++[d6 K]) else none:=(rfl)
def Yx:opX G (some n) .s2b [C] .sh none (ST l m sh)=ED n l m (Ah sh (ev (aF .any l) C)):=by
 apply KT;simp only[ju,kh,kf]
 cases ev (aF AV.any l) C<;>try rfl
 simp only[kf0,Ah,tn]
 split<;>rfl
attribute[go_sem]Lp Yx
def RG(sh:LL):AV->Option AV
 | .sl _ z l=>if z=1 then (bH l).map .str else none
 | .ss o off n z=>if z=1 then (eM false 1 sh (.ss o off n z)).bind λl=>(bH l).map .str else none
 | _=>none
def rz:RG sh (.ss j q n 1)=(sh[j]?).bind λcells=>(dE q n 1 cells).bind λl=>(bH l).map .str:=by
 simp only[RG,eM,kp,ab3];cases sh[j]?<;>rfl
def Uq:opX G (some j) .b2s [C] .sh none (ST l m sh)=gB j l m sh (RG sh (ev (aF .any l) C)):=by
 unfold opX;simp only[ju,kh,kf,mU];cases b:ev (aF AV.any l) C<;>try rfl
 ·rename_i o z y
  simp only[kf0,RG,lH];by_cases a:z=1
  ·rw[iw a,iw a]
   cases bH y with
   | none=>rfl
   | some s=>exact pI .sh j _
  ·rw[ie a,ie a];rfl
 ·rename_i o off n z
  simp only[kf0,RG,lH,tn];by_cases a:z=1
  ·rw[iw a,iw a]
   cases eM false 1 sh (.ss o off n z) with
   | none=>rfl
   | some y =>
    simp only[jk]
    cases bH y with
    | none=>rfl
    | some s=>exact pI .sh j _
  ·rw[ie a,ie a];rfl
attribute[go_sem]rz Uq
def Er:AV->Option AV
 | .sl _ z l=>if z=1 then (bH l).map .str else none
 | _=>none
def Wo:Er (.sl bf 1 c)=(bH c).map .str:=(rfl)
def Zq:opX G (some n) .b2s [C] .none none (ST l m sh)=gB n l m sh (Er (ev (aF .any l) C)):=by
 apply c8;simp only[ju,kh,kf]
 cases ev (aF AV.any l) C<;>try rfl
 ·simp only[kf0,Er]
  split
  ·simp only[ac4];rfl
  ·rfl
def Y1:bH []=some []:=(rfl)
def Y0:bH (aE K)=some K:=by
 induction K with
 | nil=>rfl
 | cons b K a =>
  have:aE (b::K)=[.int .u8 (b.toNat:Int)]::aE K:=rfl
  rw[this];simp only[bH,sS,a,jp,UInt8.ofNat_toNat]
attribute[go_sem]Wo Zq Y1 Y0
def U1(z:Nat)(zero:List AV)(bytes:Nat)(sh:LL):AV->AV->Option (AV×LL)
 | .int k n,.int k' c=>if k=.i64/\k'=.i64/\0<=n/\n<=c/\c*bytes<=140737488355328/\c<=4611686018427387904/\0<z/\zero.length=z then some (.ss sh.length 0 n.toNat z,sh++[bB zero n.toNat]) else none
 | _,_=>none
def uR:U1 j zero q sh (.int .i64 k) (.int .i64 D)=if 0<=k/\k<=D/\D*q<=140737488355328/\D<=4611686018427387904/\0<j/\zero.length=j then some (.ss sh.length 0 k.toNat j,sh++[bB zero k.toNat]) else none:=by
 simp only[U1,tn]
def Zc:opX G (some n) (.mkl j zero q) [C,ba] .sh none (ST l m sh)=ED n l m (U1 j zero q sh (ev (aF .any l) C) (ev (aF .any l) ba)):=by
 apply KT;simp only[ju,kh,kf]
 cases ev (aF AV.any l) C<;>cases ev (aF AV.any l) ba<;>try rfl
 simp only[kf0,U1,tn]
 split<;>rfl
attribute[go_sem]uR Zc
def gV(z bytes:Nat)(sh:LL)(l2:Option LL)(x:AV):Option (AV×LL):=
 l2.bind λl2=>match x with
   | .sl .full _ []=>if l2=[] then some (.sl .full z [],sh) else if 0<z/\l2.length*bytes<=140737488355328/\l2.length<=4611686018427387904 then some (.ss sh.length 0 l2.length z,sh++[l2.flatten]) else none
   | .ss o off n a=>if off=0/\a=z/\0<z/\(n+l2.length)*bytes<=140737488355328/\n+l2.length<=4611686018427387904 then
     (sh[o]?).bind λcells=>if bX cells/\n*z=cells.length/\cells.all iE then some (.ss sh.length 0 (n+l2.length) z,sh.set o aO++[cells++l2.flatten]) else none
    else none
   | _=>none
def Us:opX G (some j) (.appS U q v) [C,ba] .sh none (ST l m sh)=ED j l m (gV q v sh (eM U q sh (ev (aF .any l) ba)) (ev (aF .any l) C)):=by
 apply KT;simp only[ju,kh,kf,kf0,kp,gV]
 cases eM U q sh (ev (aF AV.any l) ba) with
 | none=>rfl
 | some l2 =>
  simp only[jk];generalize ev (aF AV.any l) C=c
  cases c<;>try rfl
  ·rename_i o b ba
   cases o<;>cases ba<;>try rfl
   simp only;by_cases a:l2=[]
   ·rw[iw a,iw a];rfl
   ·rw[ie a,ie a]
    split<;>rfl
  ·rename_i o off n b
   simp only;by_cases a:off=0/\b=q/\0<q/\(n+l2.length)*v<=140737488355328/\n+l2.length<=4611686018427387904
   ·rw[iw a,iw a]
    cases sh[o]? with
    | none=>rfl
    | some cells =>
     simp only[jk]
     split<;>rfl
   ·rw[ie a,ie a];rfl
def Uj:opX G (some n) (.slx j false) [C,ba] .sh none (ST l m sh)=gB n l m sh (rB j sh (ev (aF .any l) C) none (ev (aF .any l) ba)):=by
 unfold opX;have a:kf G ((some n).getD 0) .sh (.slx j false) ([C,ba].map (ev (ST l m sh).fr)) (rdm (ST l m sh) .sh)=(rB j sh (ev (aF .any l) C) none (ev (aF .any l) ba)).map λv=>(v,(none,sh)):=by
  simp only[ju,kh,kf,kf0,kp];rfl
 rw[a]
 cases rB j sh (ev (aF .any l) C) none (ev (aF .any l) ba) with
 | none=>rfl
 | some v =>
  show some (put (ST l m sh) (some n) v)=_;rw[iK];rfl
def Yt:opX G (some n) (.slt j) [C,ba] .sh none (ST l m sh)=ED n l m (D5 j sh (ev (aF .any l) C) (ev (aF .any l) ba)):=by
 apply KT;simp only[ju,kh,kf,kf0,kp]
def Zn:opX G (some n) (.cpy j) [C,ba] .sh none (ST l m sh)=ED n l m (B3 j sh (ev (aF .any l) ba) (ev (aF .any l) C)):=by
 apply KT;simp only[ju,kh,kf,kf0,kp]
attribute[go_sem]Us Uj Yt Zn
def TI(len:Nat)(sh:LL):AV->AV->AV->Option AV
 | .ptr o off,.int _ i,.int _ j=>if 0<=i/\i<j/\j<=len then (sh[o]?).bind λcells=>if bX cells/\off+len<=cells.length then some (.ss o (off+i.toNat) (j.toNat-i.toNat) 1) else none else none
 | _,_,_=>none
def Yu:opX G (some n) (.sla q) [C,ba,ej] .sh none (ST l m sh)=gB n l m sh (TI q sh (ev (aF .any l) C) (ev (aF .any l) ba) (ev (aF .any l) ej)):=by
 unfold opX;have b:kf G ((some n).getD 0) .sh (.sla q) ([C,ba,ej].map (ev (ST l m sh).fr)) (rdm (ST l m sh) .sh)=(TI q sh (ev (aF .any l) C) (ev (aF .any l) ba) (ev (aF .any l) ej)).map λv=>(v,(none,sh)):=by
  simp only[ju,kh,kf,mU]
  cases ev (aF AV.any l) C<;>cases ev (aF AV.any l) ba<;>cases ev (aF AV.any l) ej<;>try rfl
  rename_i o off c ba d ej;simp only[kf0,TI,tn,lH];by_cases h:0<=ba/\ba<ej/\ej<=q
  ·rw[iw h,iw h]
   cases sh[o]? with
   | none=>rfl
   | some cells =>
    simp only[jk];by_cases a:bX cells=true/\off+q<=cells.length
    ·rw[iw a,iw a];rfl
    ·rw[ie a,ie a];rfl
  ·rw[ie h,ie h];rfl
 rw[b]
 cases TI q sh (ev (aF .any l) C) (ev (aF .any l) ba) (ev (aF .any l) ej) with
 | none=>rfl
 | some v =>
  show some (put (ST l m sh) (some n) v)=_;rw[iK];rfl
def Li:TI n sh (.ptr q v) (.int O k) (.int gt D)=if 0<=k/\k<D/\D<=n then (sh[q]?).bind λcells=>if bX cells/\v+n<=cells.length then some (.ss q (v+k.toNat) (D.toNat-k.toNat) 1) else none else none:=(rfl)
attribute[go_sem]Yu Li
def aq(d:1<q){R:Nat}(b:sh[v]?=some f)(a:bX f=true)(c:R+j*q<=f.length):rB q sh (.ss v R n q) none (.int O (j:Int))=some (.ss v R j q):=by
 simp [rB,cZ,uQ,b,a,c,d]
def qV(g:0<j)(e:eM false j sh (mN n bv)=some c)(h:c.length<=n)(b:sh[q]?=some f)(a:bX f=true)(d:gR v c.flatten f=some bh):B3 j sh bv (.ss q v n j)=some (.int .i64 c.length,sh.set q bh):=by
 simp [B3,e,g,h,b,a,d]
def aU(bytes n:Nat):Bool:=decide (n*bytes<=140737488355328/\n<=4611686018427387904)
def lC(b bytes z:Nat)(a:0<z)(r:List AV)(l2:LL):gV z bytes sh (some (r::l2)) (.sl .full b [])=if aU bytes (l2.length+1)=true then some (.ss sh.length 0 (l2.length+1) z,sh++[(r::l2).flatten]) else none:=by
 simp [gV,aU,a]
attribute[go_sem]lC
def i8(o n bytes z:Nat)(a:0<z)(l2:LL):gV z bytes sh (some l2) (.ss o 0 n z)=if aU bytes (n+l2.length)=true then (sh[o]?).bind λcells=>if bX cells=true/\n*z=cells.length/\cells.all iE=true then some (.ss sh.length 0 (n+l2.length) z,sh.set o aO++[cells++l2.flatten]) else none else none:=by
 simp [gV,aU,a]
attribute[go_sem]i8
def Lt:eM false n sh (.sl bf n c)=some c:=by simp [eM,jZ]
attribute[go_sem]Lt
def Ls:eM false v sh (.ss j q n v)=(sh[j]?).bind λcells=>dE q n v cells:=by simp [eM]
attribute[go_sem]Ls
def Hi:eM true 1 sh (.str K)=some (aE K):=by simp [eM,jZ]
attribute[go_sem]Hi
def QA(left:Bool)(x y:AV):Option AV:=shA left x y
def Yv(left:Bool):opX G (some n) (.shf left) [C,ba] .none none (ST l m sh)=gB n l m sh (QA left (ev (aF .any l) C) (ev (aF .any l) ba)):=by
 apply c8;simp only[ju,kh,kf,kf0,QA]
attribute[go_sem]Yv
def Yo:QA true (.int O D) (.int gt iy)=if 0<=iy then some (.int O (O.wrap (D*2 ^ (min iy.toNat O.bits)))) else none:=by simp [QA,shA]
attribute[go_sem]Yo
def Yn:QA false (.int O D) (.int gt iy)=if 0<=iy then some (.int O (D.fdiv (2 ^ (min iy.toNat O.bits)))) else none:=by simp [QA,shA]
attribute[go_sem]Yn
def Rq(k:IntKind):AV->Option AV
 | .int _ n=>some (.int k (k.wrap n))
 | _=>none
def Rp:Rq O (.int gt D)=some (.int O (O.wrap D)):=(rfl)
def Zm:opX G (some n) (.cvi O) [C] .none none (ST l m sh)=gB n l m sh (Rq O (ev (aF .any l) C)):=by
 apply c8;simp only[ju,kh,kf]
 cases ev (aF AV.any l) C<;>rfl
attribute[go_sem]Rp Zm
def Cr(agg:Bool)(z len:Nat):AV->AV->Option AV
 | .agg l,.int _ i=>if 0<=i/\i<len/\l.length=len*z then iW agg (i.toNat*z) z l else none
 | _,_=>none
def Ps:Cr d n j (.agg f) (.int O D)=if 0<=D/\D<j/\f.length=j*n then iW d (D.toNat*n) n f else none:=(rfl)
def Zi:opX G (some n) (.ixA U j q) [C,ba] .none none (ST l m sh)=gB n l m sh (Cr U j q (ev (aF .any l) C) (ev (aF .any l) ba)):=by
 apply c8;simp only[ju,kh,kf]
 cases ev (aF AV.any l) C<;>cases ev (aF AV.any l) ba<;>try rfl
 simp only[kf0,Cr]
 split<;>rfl
def Zb:opX G (some n) .mkm [] .sh none (ST l m sh)=some (ST (fL l n (.mp sh.length)) m (sh++[[.mapv []]])):=by
 have:opX G (some n) .mkm [] .sh none (ST l m sh)=ED n l m (some (.mp sh.length,sh++[[.mapv []]])):=by
  apply KT;rfl
 rw[this];rfl
attribute[go_sem]Ps Zi Zb
def Bp(ok agg:Bool)(kk:List Nat)(zero:List AV)(sh:LL):AV->AV->Option AV
 | .mp o,k=>if bY k=true then (mF sh o).bind λl=>(lkA kk k l).bind λr=>lkR ok agg zero r else none
 | _,_=>none
def Vd:Bp d U kk zero sh (.mp n) h=if bY h=true then (mF sh n).bind λl=>(lkA kk h l).bind λr=>lkR d U zero r else none:=(rfl)
def Ze(bm:Bool):opX G (some n) (.lkp U bm kk zero) [C,ba] .sh none (ST l m sh)=gB n l m sh (Bp U bm kk zero sh (ev (aF .any l) C) (ev (aF .any l) ba)):=by
 unfold opX;simp only[ju,kh,kf,mU];cases c:ev (aF AV.any l) C<;>try rfl
 rename_i o;simp only[kf0,Bp,lH,tn];by_cases a:bY (ev (aF AV.any l) ba)=true
 ·rw[iw a,iw a]
  cases mF sh o with
  | none=>rfl
  | some b =>
   simp only[jk]
   cases lkA kk (ev (aF AV.any l) ba) b with
   | none=>rfl
   | some r =>
    simp only[jk]
    cases lkR U bm zero r with
    | none=>rfl
    | some v=>exact pI .sh n v
 ·rw[ie a,ie a];rfl
attribute[go_sem]Vd Ze
def Bg(kk:List Nat)(l:List (Nat×AV))(m:List (Nat×Option (List AV)))(sh:LL):AV->AV->AV->Option AS
 | .mp o,k,v=>if bD k=true/\bD v=true then (mF sh o).bind λx=>(muA kk k v x).map λx'=>ST l m (sh.set o [.mapv x']) else none
 | _,_,_=>none
def Uu:Bg r l m sh (.mp n) h bv=if bD h=true/\bD bv=true then (mF sh n).bind λx=>(muA r h bv x).map λx'=>ST l m (sh.set n [.mapv x']) else none:=(rfl)
def Yz:opX G none (.mup r) [C,ba,ej] .sh none (ST l m sh)=Bg r l m sh (ev (aF .any l) C) (ev (aF .any l) ba) (ev (aF .any l) ej):=by
 unfold opX;simp only[ju,kh,kf,mU];cases c:ev (aF AV.any l) C<;>try rfl
 rename_i o;simp only[kf0,Bg,lH,tn];by_cases a:bD (ev (aF AV.any l) ba)=true/\bD (ev (aF AV.any l) ej)=true
 ·rw[iw a,iw a]
  cases mF sh o with
  | none=>rfl
  | some b =>
   simp only[jk]
   cases muA r (ev (aF AV.any l) ba) (ev (aF AV.any l) ej) b<;>rfl
 ·rw[ie a,ie a]
attribute[go_sem]Uu Yz
def nr(sh:LL):AV->Option (AV×LL)
 | .ptr o off=>(sh[o]?).bind λcells=>if bX cells=true then (cells[off]?).bind λx=>match x with
   | .sl .own z l=>some (x,sh.set o (cells.set off (.sl .no z l)))
   | .sl .full _ _=>some (x,sh)
   | _=>none else none
 | _=>none
def Zg:opX G (some n) .ldo [C] .sh none (ST l m sh)=ED n l m (nr sh (ev (aF .any l) C)):=by
 apply KT;simp only[ju,kh,kf];cases a:ev (aF AV.any l) C<;>try rfl
 rename_i o off;simp only[kf0,nr,kp]
 cases sh[o]? with
 | none=>rfl
 | some cells =>
  simp only[jk];split
  ·cases cells[off]? with
   | none=>rfl
   | some y =>
    simp only[jk]
    cases y<;>try rfl
    rename_i o z q;cases o<;>rfl
  ·rfl
attribute[go_sem]Zg
def EV(o off:Nat)(cells:List AV)(sh:LL):AV->Option (AV×LL)
 | .sl .own z l=>some (.sl .own z l,sh.set o (cells.set off (.sl .no z l)))
 | .sl .full z l=>some (.sl .full z l,sh)
 | _=>none
def Nx:nr sh (.ptr n j)=(sh[n]?).bind λcells=>if bX cells=true then (cells[j]?).bind λx=>EV n j cells sh x else none:=by
 simp only[nr]
 congr 1
 funext cells
 split
 ·congr 1
  funext x
  unfold EV
  split<;>rfl
 ·rfl
attribute[go_sem]Nx
def SV(l:List (Nat×AV))(m:List (Nat×Option (List AV)))(sh:LL):AV->AV->Option AS
 | .ptr o off,.sl md z x=>(sh[o]?).bind λcells=>if bX cells=true/\off<cells.length then some (ST l m (sh.set o (cells.set off (.sl md z x)))) else none
 | _,_=>none
def Kx:SV l m sh (.ptr n j) (.sl bf q c)=(sh[n]?).bind λcells=>if bX cells=true/\j<cells.length then some (ST l m (sh.set n (cells.set j (.sl bf q c)))) else none:=(rfl)
attribute[go_sem]Kx
def SU(x:AR)(v:AV):kf G 0 .sh .sto [ev (aF .any l) x,v] (none,sh)=(match ev (aF .any l) x,v with
  | .ptr o off,.sl md z y=>(sh[o]?).bind λcells=>if bX cells=true/\off<cells.length then some (.any,(none,sh.set o (cells.set off (.sl md z y)))) else none
  | _,_=>none):=by
 simp only[kf];cases b:ev (aF AV.any l) x<;>try rfl
 rename_i o off;simp only[kf0,kp];have a:∀ {α β:Type} (o:Option α),(o.bind λ_=>(none:Option β))=none:=λo=>by cases o<;>rfl
 cases v<;>simp only[ite_self,a]
def Uh:opX G none .sto [C,.t n] .sh (some n) (ST l m sh)=SV (fL l n (aJ (aF .any l n))) m sh (ev (aF .any l) C) (aF .any l n):=by
 unfold opX;have h:=SU (G:=G) (l:=l) (sh:=sh) C (aF .any l n);have b:kf G ((none:Option Nat).getD 0) .sh .sto ([C,AR.t n].map (ev (ST l m sh).fr)) (rdm (ST l m sh) .sh)=_:=h;rw[b];cases d:ev (aF AV.any l) C<;>try rfl
 rename_i o off;cases c:aF AV.any l n<;>try rfl
 rename_i md z y;simp only[SV]
 cases sh[o]? with
 | none=>rfl
 | some cells =>
  simp only[jk];by_cases a:bX cells=true/\off<cells.length
  ·rw[iw a,iw a]
   show some (put (dT (ST l m _) (some n)) none _)=_;rw[FG,c];rfl
  ·rw[ie a,ie a]
def Ui:opX G none .sto [C,.c bv] .sh none (ST l m sh)=SV l m sh (ev (aF .any l) C) bv:=by
 unfold opX;have h:=SU (G:=G) (l:=l) (sh:=sh) C bv;have b:kf G ((none:Option Nat).getD 0) .sh .sto ([C,AR.c bv].map (ev (ST l m sh).fr)) (rdm (ST l m sh) .sh)=_:=h;rw[b];cases d:ev (aF AV.any l) C<;>try rfl
 rename_i o off
 cases bv<;>try rfl
 rename_i md z y;simp only[SV]
 cases sh[o]? with
 | none=>rfl
 | some cells =>
  simp only[jk];by_cases a:bX cells=true/\off<cells.length
  ·rw[iw a,iw a];rfl
  ·rw[ie a,ie a]
attribute[go_sem]Uh Ui
def An(d:Nat)(l:List (Nat×AV))(m:List (Nat×Option (List AV)))(sh:LL):Option (AV×LL)->Option AS
 | some (v,[])=>some (ST (fL l d v) m sh)
 | _=>none
def Am(d:Nat)(l:List (Nat×AV))(m:List (Nat×Option (List AV))):Option (AV×LL)->Option AS
 | some (v,sh')=>some (ST (fL l d v) m sh')
 | none=>none
def Hl:An n l m sh (some (h,[]))=some (ST (fL l n h) m sh):=(rfl)
def Hj:Am n l m (some (h,c))=some (ST (fL l n h) m c):=(rfl)
attribute[go_sem]Hl Hj
def kM(p:Bool)(xs:List AV):Bool:=xs.all (hH p)
def Bb:kM d []=true:=(rfl)
def wg:kM d (h::f)=(hH d h&&kM d f):=(rfl)
def Sp:hH d (.int O D)=true:=(rfl)
def Jd:hH d (.bool U)=true:=(rfl)
def Sn:hH d (.str K)=true:=(rfl)
def So:hH d (.ptr n j)=d:=(rfl)
def Wp:hH U (.ss n j q v)=U:=(rfl)
def Sq:hH d (.agg f)=true:=(rfl)
def Wq:hH d (.sl bf n c)=true:=(rfl)
def Wr:hH d (.fn Y bh)=bh.all (B6 d):=(rfl)
attribute[go_sem]Bb wg Sp Jd Sn So Wp Sq Wq Wr
def wX(G:aP)(d:Nat)(f:FuncId)(xs:List AV)(l:List (Nat×AV))(m:List (Nat×Option (List AV)))(sh:LL):Option AS:=
 if kM false xs then An d l m sh (G f (xs.map fV) []) else none
def wW(G:aP)(d:Nat)(f:FuncId)(xs:List AV)(l:List (Nat×AV))(m:List (Nat×Option (List AV)))(sh:LL):Option AS:=
 if kM true xs then Am d l m (G f (xs.map aJ) sh) else none
def DB(d:Nat):(match nS G .none Y bh (rdm (ST l m sh) .none) with | some (v,m')=>some (put (dT (wrm (ST l m sh) m' .none) none) (some d) v) | none=>none)=wX G d Y bh l m sh:=by
 unfold nS wX kM;simp only;by_cases a:bh.all (hH false)=true
 ·rw[iw a,iw a]
  cases hg:G Y (bh.map fV) [] with
  | none=>rfl
  | some r =>
   obtain⟨v,sh'⟩:=r
   cases sh' with
   | nil =>
    show some (put (ST l m sh) (some d) v)=_;rw[iK];rfl
   | cons c cs=>rfl
 ·rw[ie a,ie a]
def O7(d:Nat):(match nS G .sh Y bh (rdm (ST l m sh) .sh) with | some (v,m')=>some (put (dT (wrm (ST l m sh) m' .sh) none) (some d) v) | none=>none)=wW G d Y bh l m sh:=by
 unfold nS wW kM;simp only[lH];by_cases a:bh.all (hH true)=true
 ·rw[iw a,iw a]
  cases hg:G Y (bh.map aJ) sh with
  | none=>rfl
  | some r =>
   obtain⟨v,sh'⟩:=r;show some (put (ST l m sh') (some d) v)=_;rw[iK];rfl
 ·rw[ie a,ie a]
def Mq:opX G (some n) (.call Y) bq .none none (ST l m sh)=wX G n Y (bq.map (ev (aF .any l))) l m sh:=DB n (Y:=Y)
def Mn:opX G (some n) (.call Y) bq .sh none (ST l m sh)=wW G n Y (bq.map (ev (aF .any l))) l m sh:=O7 n (Y:=Y)
def Iz:wX G n Y bh l m sh=if kM false bh then An n l m sh (G Y (bh.map fV) []) else none:=(rfl)
def Iy:wW G n Y bh l m sh=if kM true bh then Am n l m (G Y (bh.map aJ) sh) else none:=(rfl)
attribute[go_sem]Mq Mn Iz Iy
def XH(G:aP)(d:Nat)(f:AV)(xs:List AV)(l:List (Nat×AV))(m:List (Nat×Option (List AV)))(sh:LL):Option AS:=
 match f with
 | .fn f caps=>wX G d f (xs++caps) l m sh
 | _=>none
def O6(G:aP)(d:Nat)(f:AV)(xs:List AV)(l:List (Nat×AV))(m:List (Nat×Option (List AV)))(sh:LL):Option AS:=
 match f with
 | .fn f caps=>wW G d f (xs++caps) l m sh
 | _=>none
def Ix:XH G n (.fn Y bh) iv l m sh=wX G n Y (iv++bh) l m sh:=(rfl)
def Ee:O6 G n (.fn Y bh) iv l m sh=wW G n Y (iv++bh) l m sh:=(rfl)
def Mm:opX G (some n) .callv (C::bq) .none none (ST l m sh)=XH G n (ev (aF .any l) C) (bq.map (ev (aF .any l))) l m sh:=by
 unfold opX;simp only[ju,kf,A4,mU]
 cases ev (aF AV.any l) C<;>try rfl
 exact DB n
def Hw:opX G (some n) .callv (C::bq) .sh none (ST l m sh)=O6 G n (ev (aF .any l) C) (bq.map (ev (aF .any l))) l m sh:=by
 unfold opX;simp only[ju,kf,A4,mU]
 cases ev (aF AV.any l) C<;>try rfl
 exact O7 n
attribute[go_sem]Ix Ee Mm Hw
def lp(d:Nat)(l:List (Nat×AV))(m:List (Nat×Option (List AV)))(sh:LL):Option (AV×LL)->Option AS
 | some (v,[])=>if xG v=true then some (ST (fL l d v) m sh) else none
 | _=>none
def Hk:lp n l m sh (some (h,[]))=if xG h=true then some (ST (fL l n h) m sh) else none:=(rfl)
def Ag:xG (.bool d)=true:=(rfl)
def vh:bY (.int O D)=true:=(rfl)
def yf:bD (.int O D)=true:=(rfl)
def sf:bD (.bool d)=true:=(rfl)
def yg:bD (.agg f)=f.all bY:=(rfl)
def Gt:nA sh (.int O D)=some (.int O D):=(rfl)
def Ld:nA sh (.ss j q n v)=(sh[j]?).bind λcells=>(dE q n v cells).map λl=>.sl .no v l:=(rfl)
attribute[go_sem]Hk Ag vh yf sf yg Gt Ld
def xS:Option AV->Option (List AV)->Option (List AV)
 | some x,some xs=>some (x::xs)
 | _,_=>none
def Dz:xS (some h) (some f)=some (h::f):=(rfl)
def Gu:l8 sh []=some []:=(rfl)
def zu:l8 sh (h::f)=xS (nA sh h) (l8 sh f):=by
 simp only[l8]
 cases nA sh h<;>cases l8 sh f<;>rfl
attribute[go_sem]Dz Gu zu
def A7(G:aP)(d:Nat)(f:FuncId)(a:Option (List AV))(l:List (Nat×AV))(m:List (Nat×Option (List AV)))(sh:LL):Option AS:=
 a.bind λxs=>if kM false xs then lp d l m sh (G f (xs.map fV) []) else none
def xv:A7 G n Y (some bh) l m sh=if kM false bh then lp n l m sh (G Y (bh.map fV) []) else none:=(rfl)
attribute[go_sem]xv
def Ef:(match jO G .sh Y bh (rdm (ST l m sh) .sh) with | some (v,m')=>some (put (dT (wrm (ST l m sh) m' .sh) none) (some n) v) | none=>none)=A7 G n Y (l8 sh bh) l m sh:=by
 unfold jO A7 kM;simp only[lH]
 cases l8 sh bh with
 | none=>rfl
 | some d =>
  simp only[jk];by_cases a:d.all (hH false)=true
  ·rw[iw a,iw a]
   cases hg:G Y (d.map fV) [] with
   | none=>rfl
   | some r =>
    obtain⟨v,sh'⟩:=r
    cases sh' with
    | nil =>
     simp only[jk,isEmpty_nil,jx,lp];by_cases b:xG v=true
     ·rw[iw b,iw b];exact pI .sh n v
     ·rw[ie b,ie b]
    | cons c cs=>rfl
  ·rw[ie a,ie a]
def Mp:opX G (some n) (.callR Y) bq .sh none (ST l m sh)=A7 G n Y (l8 sh (bq.map (ev (aF .any l)))) l m sh:=Ef (n:=n) (Y:=Y)
attribute[go_sem]Mp
def Wm:gF .and (.int O D) (.int O iy)=some (.int O (O.wrap (((D % 2 ^ O.bits).toNat &&& (iy % 2 ^ O.bits).toNat:Nat):Int))):=by simp [gF]
attribute[go_sem]Wm
def zAX:gF .or (.int O D) (.int O iy)=some (.int O (O.wrap (((D % 2 ^ O.bits).toNat ||| (iy % 2 ^ O.bits).toNat:Nat):Int))):=by simp [gF]
attribute[go_sem]zAX
def Wn:gF .add (.int O D) (.int O iy)=some (.int O (O.wrap (D+iy))):=by simp [gF]
attribute[go_sem]Wn
def Wc:gF .sub (.int O D) (.int O iy)=some (.int O (O.wrap (D-iy))):=by simp [gF]
attribute[go_sem]Wc
def Wg:gF .mul (.int O D) (.int O iy)=some (.int O (O.wrap (D*iy))):=by simp [gF]
attribute[go_sem]Wg
def We:gF .quo (.int O D) (.int O iy)=if iy=0 then none else some (.int O (O.wrap (D.tdiv iy))):=by simp [gF]
attribute[go_sem]We
def Wd:gF .rem (.int O D) (.int O iy)=if iy=0 then none else some (.int O (D.tmod iy)):=by simp [gF]
attribute[go_sem]Wd
def Wl:gF .eql (.int O D) (.int O iy)=some (.bool (decide (D=iy))):=by simp [gF];rfl
attribute[go_sem]Wl
def Wf:gF .neq (.int O D) (.int O iy)=some (.bool (decide (D≠iy))):=by simp [gF,bne];rfl
attribute[go_sem]Wf
def Wh:gF .lss (.int O D) (.int O iy)=some (.bool (decide (D<iy))):=by simp [gF]
attribute[go_sem]Wh
def Wi:gF .leq (.int O D) (.int O iy)=some (.bool (decide (D<=iy))):=by simp [gF]
attribute[go_sem]Wi
def Wj:gF .gtr (.int O D) (.int O iy)=some (.bool (decide (iy<D))):=by simp [gF]
attribute[go_sem]Wj
def Wk:gF .geq (.int O D) (.int O iy)=some (.bool (decide (iy<=D))):=by simp [gF]
def XN:gF .add (.str K) (.str fo)=if K.length+fo.length<=140737488355328 then some (.str (K++fo)) else none:=(rfl)
def Sl:gF .eql (.str K) (.str fo)=some (.bool (K==fo)):=(rfl)
def Sj:gF .neq (.str K) (.str fo)=some (.bool (K != fo)):=(rfl)
def Sk:gF .lss (.str K) (.str fo)=some (.bool (Op.bytesLess K fo)):=(rfl)
attribute[go_sem]Wk XN Sl Sj Sk
def XI(h:f.length=eq.nargs):O8 G eq f c=yA eq c (aC G eq.body (ST (sZ 0 f) [] c)):=by
 unfold O8;rw[iw h,uX]
def LH(keep:Bool)(sh0:LL)(res:List ARes)(r:Option (AX×AS)):Option (AV×LL):=yA ⟨0,keep,.skip,res⟩ sh0 r
def NI(keep:Bool)(sh0:LL)(res:List ARes)(σ:AS):Option (AV×LL):=match eH keep sh0 σ res with
  | some vs=>pL keep sh0.length vs σ.sh
  | none=>none
def Io:LH d c fg (some (.norm,X))=NI d c fg X:=(rfl)
def Ql:LH d c fg (some (.ret,X))=NI d c fg X:=(rfl)
def Qm[Decidable cz]:LH d bd fg (if cz then fu else ix)=if cz then LH d bd fg fu else LH d bd fg ix:=by split<;>rfl
attribute[go_sem]Io Ql Qm
def DA(agg:Bool)(n:Nat)(m:List (Nat×Option (List AV)))(sh:LL):AV->Option AV
 | .loc s off=>(aF none m s).bind λcells=>ldC agg off n cells
 | .ptr o off=>(sh[o]?).bind λcells=>if bX cells then ldC agg off n cells else none
 | _=>none
def Iw:DA d n m sh (.loc j q)=(aF none m j).bind λcells=>ldC d q n cells:=(rfl)
attribute[go_sem]Iw
def l0(keep:Bool)(sh0:LL)(l:List (Nat×AV))(m:List (Nat×Option (List AV)))(sh:LL):List ARes->Option (List AV)
 | []=>some []
 | .tmp t::rs=>xS (iT keep sh0 sh (fV (aF .any l t))) (l0 keep sh0 l m sh rs)
 | .tmpD t::rs=>xS (iT keep sh0 sh (aJ (aF .any l t))) (l0 keep sh0 l m sh rs)
 | .cell t agg n::rs=>xS ((DA agg n m sh (aF .any l t)).bind (iT keep sh0 sh)) (l0 keep sh0 l m sh rs)
def Lv:l0 d c l m sh []=some []:=(rfl)
def Lu:l0 d c l m sh (.tmp n::fg)=xS (iT d c sh (fV (aF .any l n))) (l0 d c l m sh fg):=(rfl)
def Hm:l0 d c l m sh (.tmpD n::fg)=xS (iT d c sh (aJ (aF .any l n))) (l0 d c l m sh fg):=(rfl)
def Hn:l0 d c l m sh (.cell j U n::fg)=xS ((DA U n m sh (aF .any l j)).bind (iT d c sh)) (l0 d c l m sh fg):=(rfl)
attribute[go_sem]Lv Lu Hm Hn
def yH(keep:Bool)(sh0:LL):∀ rs,eH keep sh0 (ST l m sh) rs=l0 keep sh0 l m sh rs
 | []=>rfl
 | .tmp t::rs=>by
  simp only[eH,t6,jk,l0,yH keep sh0 rs];show (match iT keep sh0 sh (fV (aF .any l t)),l0 keep sh0 l m sh rs with | some v,some vs=>some (v::vs) | _,_=>none)=_
  cases iT keep sh0 sh (fV (aF .any l t))<;>cases l0 keep sh0 l m sh rs<;>rfl
 | .tmpD t::rs=>by
  simp only[eH,t6,jk,l0,yH keep sh0 rs];show (match iT keep sh0 sh (aJ (aF .any l t)),l0 keep sh0 l m sh rs with | some v,some vs=>some (v::vs) | _,_=>none)=_
  cases iT keep sh0 sh (aJ (aF .any l t))<;>cases l0 keep sh0 l m sh rs<;>rfl
 | .cell t agg n::rs=>by
  simp only[eH,l0,yH keep sh0 rs];have a:t6 (ST l m sh) (.cell t agg n)=DA agg n m sh (aF .any l t):=by
   simp only[t6,yh]
   cases aF AV.any l t<;>rfl
  rw[a];show (match (DA agg n m sh (aF .any l t)).bind (iT keep sh0 sh),l0 keep sh0 l m sh rs with | some v,some vs=>some (v::vs) | _,_=>none)=_
  cases (DA agg n m sh (aF .any l t)).bind (iT keep sh0 sh)<;>cases l0 keep sh0 l m sh rs<;>rfl
def R9:List AV->AV
 | [v]=>v
 | vs=>.tup vs
def Kf:R9 [h]=h:=(rfl)
def Kg:R9 []=.tup []:=(rfl)
def Gr:R9 (h::bv::f)=.tup (h::bv::f):=(rfl)
attribute[go_sem]Kf Kg Gr
def CS(k:Bool)(vs:List AV):Bool:=vs.all (lM k)
def Hz:CS d []=true:=(rfl)
def Az:CS d (h::f)=(lM d h&&CS d f):=(rfl)
attribute[go_sem]Hz Az
def fF(keep:Bool)(n0:Nat)(sh:LL):Bool:=keep||(sh.take n0).all λc=>c.all (fP n0)
def vr:fF true n sh=true:=(rfl)
def vq:fF false 0 sh=true:=(rfl)
attribute[go_sem]vr vq
def UK(keep:Bool)(n0:Nat)(sh:LL):Option (List AV)->Option (AV×LL)
 | some vs=>if CS keep vs=true/\fF keep n0 sh=true then some (R9 vs,if keep then sh else sh.take n0) else none
 | none=>none
def Ax:UK d n sh (some f)=if CS d f=true/\fF d n sh=true then some (R9 f,if d then sh else sh.take n) else none:=(rfl)
def Me:NI d c fg (ST l m sh)=UK d c.length sh (l0 d c l m sh fg):=by
 unfold NI;rw[yH]
 cases l0 d c l m sh fg with
 | none=>rfl
 | some vs =>
  show pL d c.length vs sh=_;unfold pL UK CS fF;simp only[yb];rfl
def Qh:iT d c sh (.int O D)=some (.int O D):=(rfl)
def Ij:iT d c sh (.bool U)=some (.bool U):=(rfl)
def Qf:iT d c sh (.str K)=some (.str K):=(rfl)
def Ih:iT d c sh .nilp=some .nilp:=(rfl)
def Vl:iT d c sh (.sl bf n bd)=some (.sl bf n bd):=(rfl)
def Qi:iT d c sh (.agg f)=some (.agg f):=(rfl)
def Qg:iT d c sh (.ptr n j)=some (.ptr n j):=(rfl)
def Ii:iT true c sh (.ss j q n v)=some (.ss j q n v):=(rfl)
def Vk:iT false c sh (.ss j q n v)=if c.length<=j/\dW c sh=true then nA sh (.ss j q n v) else none:=(rfl)
def lg:dW [] c=true:=(rfl)
def Uf:lM U (.ss n j q v)=U:=(rfl)
def Mj:lM d (.int O D)=true:=(rfl)
def Hv:lM d (.bool U)=true:=(rfl)
def Mh:lM d (.str K)=true:=(rfl)
def Hu:lM d .nilp=true:=(rfl)
def Mi:lM d (.ptr n j)=d:=(rfl)
def Ug:lM d (.sl bf n c)=true:=(rfl)
def Mk:lM d (.agg f)=true:=(rfl)
attribute[go_sem]Ax Me Qh Ij Qf Ih Vl Qi Qg Ii Vk lg Uf Mj Hv Mh Hu Mi Ug Mk
def aA{B:aP}(F:AFun)
  (h:LH F.keep c F.res (aC (Gx B T) F.body (ST (sZ 0 bh) [] c))=some gi)(a:B Y bh c=none:=by exact rfl)(b:T Y=some F:=by exact rfl)(d:bh.length=F.nargs:=by exact rfl):Gx B T Y bh c=some gi:=by
 letI:=SK
 refine Tn a b ?_;rw[XI d];exact h
end
end Go.Av
namespace Go.Av
variable{D iy k:Int}{K:List UInt8}{O gt:IntKind}{X:AS}{bd c:LL}{bf:Own}{bh f zero:List AV}{bv fx h x0:AV}{ck:List (Nat×Nat)}{dc:ACode}{dz:List (Nat×AV)}{fu ix:Option (AX×AS)}{ik:List (Nat×Option (List AV))}{j n q:Nat}{kill r:List Nat}
variable{G:aP}{l:List (Nat×AV)}{m:List (Nat×Option (List AV))}{sh:LL}
noncomputable def xK(G:aP)(L:ACode)(kill:List Nat)(r:Option (AX×AS)):Option (AX×AS):=match r with
 | some (.norm,σ')=>aC G L (forget kill σ')
 | r=>r
def GJ:cA r (cA r bv)=cA r bv:=by
 cases bv with
 | loc s o=>by_cases h:s∈r<;>simp [cA,h]
 | _=>rfl
def IC:forget r (forget r X)=forget r X:=by
 unfold forget;simp only[AS.mk.injEq,aa9];refine⟨?_,?_⟩
 ·funext t
  by_cases h:t∈r
  ·simp [h]
  ·simp [h,GJ]
 ·funext t
  by_cases h:t∈r<;>simp [h]
def aB(L:ACode)(h:L=.loop kill dc)(l:List (Nat×AV))(m:List (Nat×Option (List AV)))(sh:LL):
  aC G L (ST l m sh)=xK G L kill (aC G dc (ST (lO kill l) (kD kill m) sh)):=by
 subst h;rw[Ev];have a:∀ σ,aC G (.loop kill dc) σ=aC G (.loop kill dc) (forget kill σ):=by
  intro σ;show AN (λσ=>aC G dc (forget kill σ)) σ=AN (λσ=>aC G dc (forget kill σ)) (forget kill σ);rw[@AM SK,@AM SK _ (forget kill σ)];simp only[IC]
 cases aC G dc (ST (lO kill l) (kD kill m) sh) with
 | none=>rfl
 | some r =>
  obtain⟨x,σ⟩:=r
  cases x with
  | norm=>exact a σ
  | _=>rfl
def Bm:xK G dc r (some (.norm,ST dz ik c))=aC G dc (ST (lO r dz) (kD r ik) c):=by
 rw[<- wQ];rfl
def Nj:xK G dc r (some (.ex n,X))=some (.ex n,X):=(rfl)
def Ib:xK G dc r (some (.ret,X))=some (.ret,X):=(rfl)
def Bn:xK G dc r none=none:=(rfl)
def Ic(cz:Prop)[Decidable cz]:xK G dc r (if cz then fu else ix)=if cz then xK G dc r fu else xK G dc r ix:=by split<;>rfl
def ou:(none:Option (List AV)).isNone=true:=(rfl)
attribute[go_sem]Bm Nj Ib Bn Ic ou
def OY:Option (List AV)->Option LL->Option LL
 | some r,some rs=>some (r::rs)
 | _,_=>none
def fQ(z:Nat):List AV->Option LL
 | []=>some []
 | x::xs=>OY (cI z x) (fQ z xs)
def Bj:fQ n []=some []:=(rfl)
def wk:fQ n (h::f)=OY (cI n h) (fQ n f):=(rfl)
def Dy:OY (some f) (some c)=some (f::c):=(rfl)
attribute[go_sem]Bj wk Dy
def vH(h:cI n bv=some f):f.length=n:=by
 unfold cI at h
 split at h
 ·split at h
  ·cases h;assumption
  ·cases h
 ·split at h
  ·cases h;rename_i a;simp [a.1]
  ·cases h
def AD{z:Nat}:∀ {xs:List AV} {rs:LL},fQ z xs=some rs->rs.length=xs.length/\∀ r∈rs,r.length=z
 | [],rs,h=>by cases h;simp
 | x::xs,rs,h=>by
  simp only[fQ] at h;cases a:cI z x with
  | none=>rw[a] at h;cases h
  | some r =>
   cases b:fQ z xs with
   | none=>rw[a,b] at h;cases h
   | some d =>
    rw[a,b] at h;cases h
    have:=AD b
    have c:=vH a;simp only[jd,this.1,tn,la,forall_eq_or_imp];exact⟨c,this.2⟩
def n7(z:Nat):∀ (rs:LL),(∀ r∈rs,r.length=z)->cP z rs.length rs.flatten=rs
 | [],_=>rfl
 | r::rs,h=>by
  have a:=h r (by simp);have b:=n7 z rs (λr c=>h r (by simp [c]));show ((r::rs).flatten).take z::cP z rs.length (((r::rs).flatten).drop z)=_;rw[ag7,aj1 a,af6 a,b]
def xR{z:Nat}{zero:List AV}(c:zero.length=z):∀ (xs:List AV) (a:List AV) (k:Nat),a.length=k*z ->
  gN (a++bB zero xs.length) ((List.range' k xs.length).map λi=>(i*z,z)) xs=(fQ z xs).map λrs=>a++rs.flatten
 | [],a,k,h=>by simp [gN,fQ,bB]
 | x::xs,a,k,h=>by
  simp only[jd,range'_succ,ju,gN,fQ];cases d:cI z x with
  | none=>cases f:fQ z xs<;>rfl
  | some cs =>
   have b:=vH d;have e:gR (k*z) cs (a++bB zero (xs.length+1))=some ((a++cs)++bB zero xs.length):=by
    rw[show bB zero (xs.length+1)=zero++bB zero xs.length from rfl];unfold gR;rw[iw (by simp only[jb];omega)];rw[aj1 h,<- kb a zero,af6 (by simp [b,h,c])]
   simp only[e];rw[xR c xs (a++cs) (k+1) (by simp [h,b,sa])]
   cases fQ z xs with
   | none=>rfl
   | some rs=>simp [OY]
def k9(c:zero.length=n)(a:f.length=j)(b:r=List.range' 0 j):
  gX n zero j r f=(fQ n f).map λrs=>.sl .full n rs:=by
 subst a;subst b;unfold gX;rw[show bB zero f.length=[]++bB zero f.length from rfl,xR c f [] 0 (by simp)];cases h:fQ n f with
 | none=>rfl
 | some rs =>
  have:=AD h
  simp only[jq,kg];rw[<- this.1,n7 n rs this.2]
def Vc:gX 1 [h] 1 [0] [bv]=(fQ 1 [bv]).map λrs=>.sl .full 1 rs:=k9 rfl rfl rfl
def Vb:gX 1 [h] 2 [0,1] [bv,fx]=(fQ 1 [bv,fx]).map λrs=>.sl .full 1 rs:=k9 rfl rfl rfl
def Va:gX 2 [h,bv] 1 [0] [fx]=(fQ 2 [fx]).map λrs=>.sl .full 2 rs:=k9 rfl rfl rfl
def Uz:gX 3 [h,bv,fx] 1 [0] [x0]=(fQ 3 [x0]).map λrs=>.sl .full 3 rs:=k9 rfl rfl rfl
def Uy(a:AV):gX 3 [h,bv,fx] 2 [0,1] [x0,a]=(fQ 3 [x0,a]).map λrs=>.sl .full 3 rs:=k9 rfl rfl rfl
def Ux(c3:AV):gX 4 [h,bv,fx,c3] 1 [0] [x0]=(fQ 4 [x0]).map λrs=>.sl .full 4 rs:=k9 rfl rfl rfl
attribute[go_sem]Vc Vb Va Uz Uy Ux
def aL(a:j<=100000)(b:n<=1000000000):aU j n=true:=by
 have:n*j<=1000000000*100000:=Nat.mul_le_mul b a
 simp only[aU,jo];omega
def bJ(md o:Own)(a:md≠.no)(z bytes:Nat)(b:0<z)(x y:LL):
  iN false z bytes (.sl md z x) (.sl o z y)=if aU bytes (x.length+y.length)=true then some (.sl .own z (x++y)) else none:=by
 simp [iN,jZ,aU,a,b]
def St:iN false 1 n (.sl .own 1 c) (.sl bf 1 bd)=if aU n (c.length+bd.length)=true then some (.sl .own 1 (c++bd)) else none:=bJ _ _ (by decide) _ _ (by decide) _ _
def Je:iN false 1 n (.sl .full 1 c) (.sl bf 1 bd)=if aU n (c.length+bd.length)=true then some (.sl .own 1 (c++bd)) else none:=bJ _ _ (by decide) _ _ (by decide) _ _
attribute[go_sem]St Je
def WR(cells:Option (List AV))(pl:List (Nat×Nat))(xs:List AV):Option (List AV):=cells.bind λc=>gN c pl xs
def Iq:gN f [] []=some f:=(rfl)
def Dj:gN f ((j,n)::ck) (h::bh)=WR ((cI n h).bind λcs=>gR j cs f) ck bh:=by
 simp only[gN,WR]
 cases cI n h with
 | none=>rfl
 | some cs=>simp only[jk];cases gR j cs f<;>rfl
def Dh:WR (some f) ck bh=gN f ck bh:=(rfl)
attribute[go_sem]Iq Dj Dh
def LI(cells:Option (List AV))(pl:List (Nat×Nat))(xs:List AV):Option (List AV):=cells.bind λc=>oW c pl xs
def Ip:oW f [] []=some f:=(rfl)
def Di:oW f ((j,n)::ck) (h::bh)=LI ((dI n h).bind λcs=>gR j cs f) ck bh:=by
 simp only[oW,LI]
 cases dI n h with
 | none=>rfl
 | some cs=>simp only[jk];cases gR j cs f<;>rfl
def xi:LI (some f) ck bh=oW f ck bh:=(rfl)
attribute[go_sem]Ip Di xi
def kL:Nat->List AV->List AV->Option (List AV)
 | _,[],cells=>some cells
 | _,_::_,[]=>none
 | 0,c::cs,_::r=>(kL 0 cs r).map λt=>c::t
 | n+1,c::cs,x::r=>(kL n (c::cs) r).map λt=>x::t
def EG:∀ (n:Nat) (cs cells:List AV),cs≠[]->gR n cs cells=kL n cs cells
 | _,[],_,h=>absurd rfl h
 | n,c::cs,[],_=>by simp [gR,kL]
 | 0,[c],x::r,_=>by simp [gR,kL]
 | 0,c::c2::cs,x::r,_=>by
  have:=EG 0 (c2::cs) r (by simp)
  simp only[kL];rw[<- this];unfold gR;simp only[jd,km,Tv,kg,Nat.add_le_add_iff_right]
  split<;>simp
 | n+1,c::cs,x::r,_=>by
  have:=EG n (c::cs) r (by simp)
  simp only[kL];rw[<- this];unfold gR;simp only[jd];by_cases h:n+(cs.length+1)<=r.length
  ·rw[iw h,iw (by omega)]
   simp [show n+1+(cs.length+1)=n+(cs.length+1)+1 by omega]
  ·rw[ie h,ie (by omega)];rfl
def Lz:gR n (h::f) bh=kL n (h::f) bh:=EG _ _ _ (by simp)
attribute[go_sem]Lz
def zW:kL n [] f=some f:=by cases n<;>simp [kL]
def KP:kL 0 (h::f) (bv::bh)=(kL 0 f bh).map λt=>h::t:=(rfl)
def zV:kL (n+1) (h::f) (bv::bh)=(kL n (h::f) bh).map λt=>bv::t:=(rfl)
attribute[go_sem]zW KP zV
def Q9:Own->Own
 | .own=>.no
 | o=>o
def Ri:Q9 .own=.no:=(rfl)
def Vy:Q9 .no=.no:=(rfl)
def Iv:Q9 .full=.full:=(rfl)
attribute[go_sem]Ri Vy Iv
def d4:aJ (.sl bf n c)=.sl (Q9 bf) n c:=by cases bf<;>rfl
def gE(h:0<=k):uQ k=some k.toNat:=by simp [uQ,h]
def Uc(h:0<=D)(a:D<=(c.length:Int)):aZ false j (.sl bf j c) none (some (.int O D))=some (.sl .no j (c.take D.toNat)):=by
 simp only[aZ,cZ,gE h];rw[iw ⟨by omega,by omega,.inl trivial⟩];simp
attribute[go_sem]Uc
def Ub(h:0<=D)(a:D<=(c.length:Int)):aZ false j (.sl bf j c) (some (.int O D)) none=some (.sl .no j (c.drop D.toNat)):=by
 simp only[aZ,cZ,gE h];rw[iw ⟨by omega,by omega,.inl trivial⟩];simp
def Gv(h:0<=D)(a:D<=iy)(b:iy<=(c.length:Int)):aZ false q (.sl bf q c) (some (.int O D)) (some (.int gt iy))=some (.sl .no q ((c.take iy.toNat).drop D.toNat)):=by
 simp only[aZ,cZ,gE h,gE (Int.le_trans h a)];rw[iw ⟨by omega,by omega,.inl trivial⟩]
attribute[go_sem]Ub Gv
def D7(h:0<=D)(a:D<=(K.length:Int)):aZ true j (.str K) none (some (.int O D))=some (.str (K.take D.toNat)):=by
 simp only[aZ,cZ,gE h];rw[iw ⟨by omega,by omega⟩];simp
attribute[go_sem]D7
def yE(h:0<=D)(a:D<=(K.length:Int)):aZ true j (.str K) (some (.int O D)) none=some (.str (K.drop D.toNat)):=by
 simp only[aZ,cZ,gE h];rw[iw ⟨by omega,by omega⟩];simp
def wA(h:0<=D)(a:D<=iy)(b:iy<=(K.length:Int)):aZ true q (.str K) (some (.int O D)) (some (.int gt iy))=some (.str ((K.take iy.toNat).drop D.toNat)):=by
 simp only[aZ,cZ,gE h,gE (Int.le_trans h a)];rw[iw ⟨by omega,by omega⟩]
attribute[go_sem]yE wA
def Ua(v R:Nat)(h:0<=D)(a:D<=(R:Int)):aZ false j (.ss q v R j) none (some (.int O D))=some (.ss q v D.toNat j):=by
 simp only[aZ,cZ,gE h];rw[iw ⟨by omega,by omega,trivial⟩];simp
def Tz(v R:Nat)(h:0<=D)(b:D<=(R:Int)):aZ false j (.ss q v R j) (some (.int O D)) none=if D=0\/D<R then some (.ss q (v+D.toNat*j) (R-D.toNat) j) else some (.sl .no j []):=by
 simp only[aZ,cZ,gE h];rw[iw ⟨by omega,by omega,trivial⟩];by_cases a:D=0\/D<R
 ·rw[iw a,iw (by omega)]
 ·rw[ie a,ie (by omega)]
attribute[go_sem]Ua Tz
def w64(a:-9223372036854775808<=k)(b:k<=9223372036854775807):IntKind.i64.wrap k=k:=IntWalk.i64_in k ⟨a,b⟩
def w6(h:-9223372036854775808<=k/\k<=9223372036854775807):IntKind.i64.wrap k=k:=w64 h.1 h.2
end Go.Av
