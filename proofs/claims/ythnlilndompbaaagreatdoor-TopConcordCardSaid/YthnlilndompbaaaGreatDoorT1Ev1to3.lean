/- A part of the frame. No conditions. -/
import Derived.Calls
import Derived.Orders
import Derived.Below
open List
set_option linter.all false
set_option maxRecDepth 100000
set_option maxHeartbeats 16000000
def ie:=@if_neg
def ii:=@List.getElem?_eq_getElem
def ir:=@Bool.and_eq_true
def iw:=@if_pos
def jb:=@List.length_append
def jc:=@Option.some.injEq
theorem jd:type_of% @List.length_cons:=rfl
def jf:=@Option.map_eq_some_iff
def jg:=@Prod.mk.injEq
def jh:=@List.getElem?_eq_some_iff
def ji:=@Nat.le_refl
def jo:=@decide_eq_true_eq
theorem jp:type_of% @Int.toNat_natCast:=λ_=>rfl
theorem jq:type_of% @Option.map_some:=λ_ _=>rfl
def js:=@List.eq_nil_of_length_eq_zero
def ju:=@List.map_cons
def jx:=@Bool.true_and
theorem jz:type_of% @List.length_nil:=rfl
def ka:=@List.append_nil
def kb:=@List.append_assoc
theorem kg:type_of% @List.nil_append:=λ_=>rfl
def kh:=@List.map_nil
def kj:=@List.mem_singleton
def kl:=@List.length_drop
def km:=@Nat.zero_add
theorem ko:type_of% @List.cons_append:=rfl
def kp:=@if_true
def kt:=@not_true_eq_false
def kv:=@Bool.and_true
def kx:=@List.all_eq_true
def kz:=@if_false
def la:=@List.mem_cons
def mo:=@Array.getD_eq_getD_getElem?
def ms:=@decide_true
def ng:=@List.mem_append
def sa:=@Nat.add_mul
def sc:=@Nat.lt_of_lt_of_le
def tb:=@List.getElem?_drop
def tn:=@true_and
def yb:=@Bool.or_eq_true
def yd:=@List.mem_map
def La:=@Nat.add_assoc
def Lb:=@Bool.and_self
def Lh:=@beq_iff_eq
def Ty:=@List.take_of_length_le
def aa1:=@List.cons.injEq
def aa7:=@Nat.lt_or_ge
def aa8:=@Bool.not_eq_true'
def ab0:=@Nat.mul_le_mul_right
def ab1:=@Nat.le_trans
theorem ac6:type_of% @List.foldl_cons:=rfl
theorem ad0:type_of% @List.all_cons:=rfl
theorem ad6:type_of% @ne_eq:=λ_ _=>rfl
def ad9:=@Ne.symm
def ae3:=@List.drop_left
def ae4:=@Int.eq_ofNat_of_zero_le
def ae8:=@Nat.ne_of_lt
def af5:=@List.map_append
def ag9:=@List.mem_filter
def ai7:=@Array.getElem?_setIfInBounds
namespace Go.Av
class Gtab where
 tab:Nat→Option (IntKind×List Int)
abbrev SK:Gtab:=⟨λ_=>none⟩
inductive Own where
 | no | full | own
 deriving DecidableEq
inductive AV where
 | any
 | undef
 | int (k:IntKind) (n:Int)
 | bool (b:Bool)
 | str (s:List UInt8)
 | nilp
 | ptr (o off:Nat)
 | loc (s off:Nat)
 | ip (l:List AV)
 | sl (m:Own) (z:Nat) (l:List (List AV))
 | fn (f:FuncId) (caps:List AV)
 | agg (l:List AV)
 | tup (l:List AV)
 | ss (o off n z:Nat)
 | mp (o:Nat)
 | mapv (l:List (List AV))
 | aggR (l:List AV)
abbrev LL:=List (List AV)
inductive AR where
 | t (s:Nat)
 | c (a:AV)
inductive ML where
 | none | lo (s:Nat) | sh
 deriving DecidableEq
inductive AK where
 | mv | mvo | pick
 | alloc (zero:List AV) | allocS (zero:List AV) | box (n:Nat) | boxS (n:Nat)
 | build (zero:List AV) (pl:List (Nat×Nat))
 | mks (z:Nat) (zero:List AV) (len:Nat) (pl:List Nat)
 | shf (left:Bool)
 | ld (agg:Bool) (n:Nat) | st (n:Nat)
 | nilc
 | bin (op:BinOp) | seq (ne:Bool) (ks:List Nat) | un (op:UnOp)
 | slc (str:Bool) (z:Nat) (lo hi:Bool)
 | fa (off:Nat)
 | ia (z:Nat) | iaA (z len:Nat) | ixs
 | len (str:Bool) | mm (isMax:Bool)
 | app (str:Bool) (z bytes:Nat)
 | mkf (f:FuncId)
 | call (f:FuncId) | callv | callR (f:FuncId)
 | ext (i:Nat)
 | ldo | sto
 | cvi (k:IntKind) | s2b | b2s | mkl (z:Nat) (zero:List AV) (bytes:Nat) | appS (str:Bool) (z bytes:Nat)
 | mkm | lkp (ok:Bool) (agg:Bool) (kk:List Nat) (zero:List AV) | mup (kk:List Nat)
 | ixA (agg:Bool) (z len:Nat)
 | slx (z:Nat) (lo:Bool) | cpy (z:Nat)
 | buildR (zero:List AV) (pl:List (Nat×Nat)) | sla (len:Nat) | slt (z:Nat) | isn
structure AOper where
 dst:Option Nat
 k:AK
 args:List AR
 ml:ML
 dem:Option Nat
 guard:Option (Nat×Bool)
inductive ACode where
 | skip
 | reg (draw:Bool) (al:List Nat) (ops:List AOper) (kill:List Nat)
 | seq (a b:ACode)
 | cond (c:AR) (a b:ACode)
 | block (id:Nat) (a:ACode)
 | loop (kill:List Nat) (a:ACode)
 | exit (id:Nat)
 | ret
structure AS where
 fr:Nat->AV
 lo:Nat->Option (List AV)
 sh:LL
def upd{α:Type}(f:Nat->α)(k:Nat)(v:α):Nat->α:=λi=>if i=k then v else f i
def ev(fr:Nat->AV):AR->AV
 | .t s=>fr s
 | .c a=>a
abbrev MV:=Option (List AV)×LL
def rdm(σ:AS):ML->MV
 | .none=>(none,[])
 | .lo s=>(σ.lo s,[])
 | .sh=>(none,σ.sh)
def wrm(σ:AS)(m:MV):ML->AS
 | .none=>σ
 | .lo s=>{ σ with lo:=upd σ.lo s m.1 }
 | .sh=>{ σ with sh:=m.2 }
def aJ:AV->AV
 | .sl .own z l=>.sl .no z l
 | v=>v
def fV:AV->AV
 | .sl _ z l=>.sl .no z l
 | v=>v
def aQ:AV->Bool
 | .int .. | .bool _ | .str _ | .nilp=>true
 | .sl m _ _=>m != .own
 | _=>false
def TZ:AV->Bool
 | .ptr .. | .ss .. | .mp _=>true
 | _=>false
def C9:AV->AV
 | .sl .full z []=>.sl .full z []
 | v=>fV v
def cI(n:Nat):AV->Option (List AV)
 | .agg l=>if l.length=n then some l else none
 | v=>if n=1/\aQ (C9 v)=true then some [C9 v] else none
def frB(x:AV):Bool:=aQ x||TZ x
def dI(n:Nat):AV->Option (List AV)
 | .agg l=>if l.length=n then some l else none
 | .aggR l=>if l.length=n/\l.all frB=true then some l else none
 | v=>if n=1/\(aQ (fV v)||TZ v)=true then some [fV v] else none
def iE:AV->Bool
 | .sl .own _ _=>false
 | _=>true
def aO:List AV:=[.undef]
def bX:List AV->Bool
 | [.mapv _]=>false
 | [.undef]=>false
 | _=>true
def iW(agg:Bool)(off n:Nat)(cells:List AV):Option AV:=
 let part:=(cells.drop off).take n
 if part.length=n then (if agg then some (.agg part) else match part with | [c]=>some c | _=>none) else none
def ldV:AV->Option AV
 | .mapv _=>none
 | .undef=>none
 | .sl .own z l=>some (.sl .no z l)
 | x=>some x
def ldC(agg:Bool)(off n:Nat)(cells:List AV):Option AV:=
 if agg then
  (if ((cells.drop off).take n).length=n/\((cells.drop off).take n).all (λx=>aQ (aJ x))=true then some (.agg (((cells.drop off).take n).map aJ)) else none)
 else match cells[off]? with
  | some x=>ldV x
  | none=>none
def gR(off:Nat)(cs cells:List AV):Option (List AV):=
 if off+cs.length<=cells.length then some (cells.take off++cs++cells.drop (off+cs.length)) else none
def shA(left:Bool):AV->AV->Option AV
 | .int k a,.int _ b=>if 0<=b then (if left then some (.int k (k.wrap (a*2 ^ (min b.toNat k.bits)))) else some (.int k (a.fdiv (2 ^ (min b.toNat k.bits))))) else none
 | _,_=>none
def gF(op:BinOp):AV->AV->Option AV
 | .int k a,.int k' b =>
  if k=k' then
   match op with
   | .add=>some (.int k (k.wrap (a+b)))
   | .sub=>some (.int k (k.wrap (a-b)))
   | .mul=>some (.int k (k.wrap (a*b)))
   | .quo=>if b=0 then none else some (.int k (k.wrap (a.tdiv b)))
   | .rem=>if b=0 then none else some (.int k (a.tmod b))
   | .eql=>some (.bool (a==b))
   | .neq=>some (.bool (a != b))
   | .lss=>some (.bool (decide (a<b)))
   | .leq=>some (.bool (decide (a<=b)))
   | .gtr=>some (.bool (decide (b<a)))
   | .geq=>some (.bool (decide (b<=a)))
   | .and=>some (.int k (k.wrap (((a % 2 ^ k.bits).toNat &&& (b % 2 ^ k.bits).toNat:Nat):Int)))
   | .or=>some (.int k (k.wrap (((a % 2 ^ k.bits).toNat ||| (b % 2 ^ k.bits).toNat:Nat):Int)))
   | _=>none
  else none
 | .str a,.str b =>
  match op with
  | .add=>if a.length+b.length<=140737488355328 then some (.str (a++b)) else none
  | .eql=>some (.bool (a==b))
  | .neq=>some (.bool (a != b))
  | .lss=>some (.bool (Op.bytesLess a b))
  | .leq=>some (.bool (Op.bytesLess a b||a==b))
  | .gtr=>some (.bool !(Op.bytesLess a b||a==b))
  | .geq=>some (.bool !(Op.bytesLess a b))
  | _=>none
 | _,_=>none
def eqL:List Nat->List AV->List AV->Option Bool
 | [],[],[]=>some true
 | 0::ks,.int k a::xs,.int k' b::c=>if k=k' then (eqL ks xs c).map λr=>(a==b)&&r else none
 | 1::ks,.bool a::xs,.bool b::c=>(eqL ks xs c).map λr=>(a==b)&&r
 | 2::ks,.str a::xs,.str b::c=>(eqL ks xs c).map λr=>(a==b)&&r
 | _,_,_=>none
def gN:List AV->List (Nat×Nat)->List AV->Option (List AV)
 | cells,[],[]=>some cells
 | cells,(off,n)::pl,x::xs =>
  match cI n x with
  | some cs=>match gR off cs cells with
   | some c'=>gN c' pl xs
   | none=>none
  | none=>none
 | _,_,_=>none
def oW:List AV->List (Nat×Nat)->List AV->Option (List AV)
 | cells,[],[]=>some cells
 | cells,(off,n)::pl,x::xs =>
  match dI n x with
  | some cs=>match gR off cs cells with
   | some c'=>oW c' pl xs
   | none=>none
  | none=>none
 | _,_,_=>none
def cP(z:Nat):Nat->List AV->LL
 | 0,_=>[]
 | n+1,cs=>cs.take z::cP z n (cs.drop z)
def bB(zero:List AV):Nat->List AV
 | 0=>[]
 | n+1=>zero++bB zero n
def uQ(n:Int):Option Nat:=if 0<=n then some n.toNat else none
def cZ:Option AV->Nat->Option Nat
 | none,d=>some d
 | some (.int _ n),_=>uQ n
 | some _,_=>none
def aZ(str:Bool)(z:Nat)(x:AV)(lo:Option AV)(hi:Option AV):Option AV:=
 match str,x with
 | false,.sl _ a l =>
  match cZ lo 0,cZ hi l.length with
  | some i,some j=>if i<=j/\j<=l.length/\(a=z\/l=[]) then some (.sl .no z ((l.take j).drop i)) else none
  | _,_=>none
 | false,.ss o off n a =>
  match cZ lo 0,cZ hi n with
  | some i,some j=>if i<=j/\j<=n/\a=z then (if i=0\/i<j then some (.ss o (off+i*z) (j-i) z) else some (.sl .no z [])) else none
  | _,_=>none
 | true,.str s =>
  match cZ lo 0,cZ hi s.length with
  | some i,some j=>if i<=j/\j<=s.length then some (.str ((s.take j).drop i)) else none
  | _,_=>none
 | _,_=>none
def aE(s:List UInt8):List (List AV):=s.map λb=>[.int .u8 (b.toNat:Int)]
def jZ(str:Bool)(z:Nat):AV->Option LL
 | .sl _ a l2=>if str=false/\(a=z\/l2=[]) then some l2 else none
 | .str s=>if str=true/\z=1 then some (aE s) else none
 | _=>none
def dE(off n z:Nat)(cells:List AV):Option LL:=
 if 0<z/\off+n*z<=cells.length/\((cells.drop off).take (n*z)).all (λx=>aQ (aJ x))=true then some (cP z n (((cells.drop off).take (n*z)).map aJ)) else none
def nA(sh:LL):AV->Option AV
 | .ss o off n z=>(sh[o]?).bind λcells=>(dE off n z cells).map λl=>.sl .no z l
 | x=>some x
def l8(sh:LL):List AV->Option (List AV)
 | []=>some []
 | x::xs=>match nA sh x,l8 sh xs with
  | some y,some a=>some (y::a)
  | _,_=>none
def sS:AV->Option UInt8
 | .int .u8 n=>some (UInt8.ofNat n.toNat)
 | _=>none
def bH:LL->Option (List UInt8)
 | []=>some []
 | [c]::r=>match sS c,bH r with
  | some b,some bs=>some (b::bs)
  | _,_=>none
 | _::_=>none
def eM(str:Bool)(z:Nat)(sh:LL):AV->Option LL
 | .ss o off n a=>if str=false/\a=z then (sh[o]?).bind λcells=>dE off n z cells else none
 | x=>jZ str z x
def oT(kk:List Nat)(x y:AV):Option Bool:=eqL kk [x] [y]
def lkA(kk:List Nat)(k:AV):LL->Option (Option AV)
 | []=>some none
 | [k',v]::r=>match oT kk k k' with
  | some true=>some (some v)
  | some false=>lkA kk k r
  | none=>none
 | _::_=>none
def muA(kk:List Nat)(k v:AV):LL->Option LL
 | []=>some [[k,v]]
 | [k',a]::r=>match oT kk k k' with
  | some true=>some ([k,v]::r)
  | some false=>(muA kk k v r).map ([k',a] :: ·)
  | none=>none
 | _::_=>none
def lkR(ok agg:Bool)(zero:List AV):Option AV->Option AV
 | some v=>some (if ok then .tup [v,.bool true] else v)
 | none=>match agg,zero with
  | true,z=>some (if ok then .tup [.agg z,.bool false] else .agg z)
  | false,[z]=>some (if ok then .tup [z,.bool false] else z)
  | _,_=>none
def mF(sh:LL)(o:Nat):Option LL:=
 match sh[o]? with
 | some [.mapv l]=>some l
 | _=>none
abbrev aP:=FuncId->List AV->LL->Option (AV×LL)
def B6(p:Bool):AV->Bool
 | .ptr ..=>p
 | .ss ..=>p
 | .mp _=>p
 | c=>aQ c
def hH(p:Bool):AV->Bool
 | .loc ..=>false
 | .tup _=>false
 | .mapv _=>false
 | .aggR _=>false
 | .ptr ..=>p
 | .ss ..=>p
 | .mp _=>p
 | .fn _ caps=>caps.all (B6 p)
 | _=>true
def pv:Bool->AV->AV
 | true,x=>aJ x
 | false,x=>fV x
def nS(G:aP)(ml:ML)(f:FuncId)(xs:List AV)(m:MV):Option (AV×MV):=
 match ml with
 | .sh=>if xs.all (hH true) then (G f (xs.map aJ) m.2).map λr=>(r.1,(m.1,r.2)) else none
 | .none=>if xs.all (hH false) then (G f (xs.map fV) []).bind λr=>if r.2.isEmpty then some (r.1,m) else none else none
 | _=>none
def bY:AV->Bool
 | .int .. | .bool _ | .str _ | .nilp=>true
 | _=>false
def bD:AV->Bool
 | .agg l=>l.all bY
 | x=>bY x
def xG:AV->Bool
 | .tup l=>l.all bY
 | x=>bY x
def jO(G:aP)(ml:ML)(f:FuncId)(xs:List AV)(m:MV):Option (AV×MV):=
 match ml with
 | .sh=>(l8 m.2 xs).bind λa=>if a.all (hH false) then (G f (a.map fV) []).bind λr=>if r.2.isEmpty&&xG r.1 then some (r.1,m) else none else none
 | _=>none
def rB(z:Nat)(sh:LL)(x:AV)(lo:Option AV)(hi:AV):Option AV:=
 match x with
 | .ss o off n a=>match cZ lo 0,cZ (some hi) n,sh[o]? with
  | some i,some j,some cells=>if i<=j/\off+j*z<=cells.length/\a=z/\1<z/\bX cells then (if i=0\/i<j then some (.ss o (off+i*z) (j-i) z) else some (.sl .no z [])) else none
  | _,_,_=>none
 | x=>aZ false z x lo (some hi)
def D5(z:Nat)(sh:LL)(x h:AV):Option (AV×LL):=
 (rB z sh x none h).bind λv=>match v with
  | .ss o 0 k a=>(sh[o]?).map λcells=>(.ss o 0 k a,sh.set o (cells.take (k*a)))
  | v=>some (v,sh)
def mN(n:Nat):AV->AV
 | .ss o off k z=>.ss o off (min k n) z
 | x=>x
def B3(z:Nat)(sh:LL)(y x:AV):Option (AV×LL):=
 match x with
 | .ss o off n a=>(eM false z sh (mN n y)).bind λl2=>if a=z/\0<z/\l2.length<=n then (sh[o]?).bind λcells=>if bX cells then (gR off l2.flatten cells).map λc'=>(.int .i64 l2.length,sh.set o c') else none else none
 | _=>none
def kf0(d:Nat)(ml:ML):AK->List AV->MV->Option (AV×MV)
 | .mv,[x],m=>some (aJ x,m)
 | .mvo,[x],m=>some (x,m)
 | .pick,[.bool c,a,b],m=>some (aJ (if c then a else b),m)
 | .alloc zero,[],m=>if ml=.lo d/\m.1.isNone then some (.loc d 0,(some zero,m.2)) else none
 | .allocS zero,[],m=>if ml=.sh then some (.ptr m.2.length 0,(m.1,m.2++[zero])) else none
 | .box n,[x],m=>if ml=.lo d/\m.1.isNone then (cI n x).map λcs=>(.loc d 0,(some cs,m.2)) else none
 | .boxS n,[x],m=>if ml=.sh then (cI n x).map λcs=>(.ptr m.2.length 0,(m.1,m.2++[cs])) else none
 | .build zero pl,xs,m=>(gN zero pl xs).map λcs=>(.agg cs,m)
 | .buildR zero pl,xs,m=>(oW zero pl xs).map λcs=>(.aggR cs,m)
 | .sla len,[.ptr o off,.int _ i,.int _ j],m=>if ml=.sh/\0<=i/\i<j/\j<=len then (m.2[o]?).bind λcells=>if bX cells/\off+len<=cells.length then some (.ss o (off+i.toNat) (j.toNat-i.toNat) 1,m) else none else none
 | .mks z zero len pl,xs,m =>
  (gN (bB zero len) (pl.map λi=>(i*z,z)) xs).map λcs=>(.sl .full z (cP z len cs),m)
 | .ld agg n,[a],m =>
  match a with
  | .loc s off=>if ml=.lo s then m.1.bind λcells=>(ldC agg off n cells).map λv=>(v,m) else none
  | .ptr o off=>if ml=.sh then m.2[o]?.bind λcells=>(ldC agg off n cells).map λv=>(v,m) else none
  | .ip cells=>(iW agg 0 n cells).map λv=>(v,m)
  | _=>none
 | .st n,[a,x],m =>
  match a with
  | .loc s off=>if ml=.lo s then m.1.bind λcells=>(dI n x).bind λcs=>(gR off cs cells).map λc'=>(.any,(some c',m.2)) else none
  | .ptr o off=>if ml=.sh then m.2[o]?.bind λcells=>if bX cells then (dI n x).bind λcs=>(gR off cs cells).map λc'=>(.any,(m.1,m.2.set o c')) else none else none
  | _=>none
 | .ldo,[.ptr o off],m =>
  if ml=.sh then m.2[o]?.bind λcells=>if bX cells then (cells[off]?).bind λx=>match x with
   | .sl .own z l=>some (x,(m.1,m.2.set o (cells.set off (.sl .no z l))))
   | .sl .full _ _=>some (x,m)
   | _=>none else none else none
 | .sto,[.ptr o off,x],m =>
  if ml=.sh then m.2[o]?.bind λcells=>if bX cells/\off<cells.length then match x with
   | .sl _ _ _=>some (.any,(m.1,m.2.set o (cells.set off x)))
   | _=>none else none else none
 | .nilc,[x],m =>
  match x with
  | .ptr .. | .loc .. | .ip _=>some (x,m)
  | _=>none
 | .shf l,[x,y],m=>(shA l x y).map λv=>(v,m)
 | .cvi k,[.int _ n],m=>some (.int k (k.wrap n),m)
 | .s2b,[.str s],m=>if ml=.sh/\s.length<=140737488355328 then some (.ss m.2.length 0 s.length 1,(m.1,m.2++[s.map λb=>.int .u8 (b.toNat:Int)])) else none
 | .b2s,[x],m =>
  match x with
  | .sl _ z l=>if z=1 then (bH l).map λs=>(.str s,m) else none
  | .ss _ _ _ z=>if ml=.sh/\z=1 then (eM false 1 m.2 x).bind λl=>(bH l).map λs=>(.str s,m) else none
  | _=>none
 | .mkl z zero bytes,[.int k n,.int k' c],m =>
  if ml=.sh/\k=.i64/\k'=.i64/\0<=n/\n<=c/\c*bytes<=140737488355328/\c<=4611686018427387904/\0<z/\zero.length=z then some (.ss m.2.length 0 n.toNat z,(m.1,m.2++[bB zero n.toNat])) else none
 | .appS str z bytes,[x,y],m =>
  if ml=.sh then (eM str z m.2 y).bind λl2=>match x with
   | .sl .full _ []=>if l2=[] then some (.sl .full z [],m) else if 0<z/\l2.length*bytes<=140737488355328/\l2.length<=4611686018427387904 then some (.ss m.2.length 0 l2.length z,(m.1,m.2++[l2.flatten])) else none
   | .ss o off n g=>if off=0/\g=z/\0<z/\(n+l2.length)*bytes<=140737488355328/\n+l2.length<=4611686018427387904 then
     (m.2[o]?).bind λcells=>if bX cells/\n*z=cells.length/\cells.all iE then some (.ss m.2.length 0 (n+l2.length) z,(m.1,m.2.set o aO++[cells++l2.flatten])) else none
    else none
   | _=>none
  else none
 | .mkm,[],m=>if ml=.sh then some (.mp m.2.length,(m.1,m.2++[[.mapv []]])) else none
 | .lkp ok agg kk zero,[.mp o,k],m =>
  if ml=.sh/\bY k=true then (mF m.2 o).bind λl=>(lkA kk k l).bind λr=>(lkR ok agg zero r).map λv=>(v,m)
  else none
 | .mup kk,[.mp o,k,v],m =>
  if ml=.sh/\bD k=true/\bD v=true then
   (mF m.2 o).bind λl=>(muA kk k v l).map λq=>(.any,(m.1,m.2.set o [.mapv q])) else none
 | .ixA agg z len,[.agg l,.int _ i],m=>if 0<=i/\i<len/\l.length=len*z then (iW agg (i.toNat*z) z l).map λv=>(v,m) else none
 | .bin op,[x,y],m=>(gF op x y).map λv=>(v,m)
 | .seq ne ks,[.agg x,.agg y],m=>(eqL ks x y).map λb=>(.bool (if ne then !b else b),m)
 | .isn,[.sl _ _ (_::_)],m=>some (.bool false,m)
 | .un op,[x],m =>
  match op,x with
  | .neg,.int k n=>some (.int k (k.wrap (0-n)),m)
  | .not,.bool b=>some (.bool !b,m)
  | _,_=>none
 | .slc str z false false,[x],m=>(aZ str z x none none).map λv=>(v,m)
 | .slc str z true false,[x,l],m=>(aZ str z x (some l) none).map λv=>(v,m)
 | .slc str z false true,[x,h],m=>(aZ str z x none (some h)).map λv=>(v,m)
 | .slc str z true true,[x,l,h],m=>(aZ str z x (some l) (some h)).map λv=>(v,m)
 | .fa off,[a],m =>
  match a with
  | .loc s o=>some (.loc s (o+off),m)
  | .ptr i o=>some (.ptr i (o+off),m)
  | .ip l=>some (.ip (l.drop off),m)
  | _=>none
 | .ia z,[.sl _ g l,.int _ i],m =>
  if g=z/\0<=i then (l[i.toNat]?).map λe=>(.ip e,m) else none
 | .ia z,[.ss o off n g,.int _ i],m =>
  if g=z/\0<=i/\i<n then some (.ptr o (off+i.toNat*z),m) else none
 | .iaA z len,[a,.int _ i],m =>
  if 0<=i/\i<len then
   match a with
   | .loc s o=>some (.loc s (o+i.toNat*z),m)
   | .ptr p o=>some (.ptr p (o+i.toNat*z),m)
   | .ip l=>some (.ip (l.drop (i.toNat*z)),m)
   | _=>none
  else none
 | .ixs,[.str s,.int _ i],m=>if 0<=i then (s[i.toNat]?).map λb=>(.int .u8 (b.toNat:Int),m) else none
 | .len false,[.sl _ _ l],m=>some (.int .i64 l.length,m)
 | .len false,[.ss _ _ n _],m=>some (.int .i64 n,m)
 | .len true,[.str s],m=>some (.int .i64 s.length,m)
 | .mm b,[.int k x,.int k' y],m=>if k=k' then some (.int k (if b then (if x<y then y else x) else (if y<x then y else x)),m) else none
 | .app str z bytes,[.sl md g l,y],m =>
  (jZ str z y).bind λl2=>if (g=z\/(l=[]/\md=.full))/\md≠.no/\0<z/\(l.length+l2.length)*bytes<=140737488355328/\l.length+l2.length<=4611686018427387904 then some (.sl .own z (l++l2),m) else none
 | .mkf f,caps,m=>if caps.all (B6 true) then some (.fn f caps,m) else none
 | .ext i,[.tup l],m=>(l[i]?).map λv=>(v,m)
 | .slx z false,[x,h],m=>if ml=.sh then (rB z m.2 x none h).map λv=>(v,m) else none
 | .slx z true,[x,l,h],m=>if ml=.sh then (rB z m.2 x (some l) h).map λv=>(v,m) else none
 | .slt z,[x,h],m=>if ml=.sh then (D5 z m.2 x h).map λr=>(r.1,(m.1,r.2)) else none
 | .cpy z,[x,y],m=>if ml=.sh then (B3 z m.2 y x).map λr=>(r.1,(m.1,r.2)) else none
 | _,_,_=>none
def A4(G:aP)(ml:ML)(xs:List AV)(m:MV):Option (AV×MV):=
 match xs with
 | .fn f caps::xs=>nS G ml f (xs++caps) m
 | _=>none
def kf(G:aP)(d:Nat)(ml:ML)(k:AK)(xs:List AV)(m:MV):Option (AV×MV):=
 match k with
 | .call f=>nS G ml f xs m
 | .callv=>A4 G ml xs m
 | .callR f=>jO G ml f xs m
 | k=>kf0 d ml k xs m
def fY(fr:Nat->AV):Option (Nat×Bool)->Option Bool
 | none=>some true
 | some (s,a)=>match fr s with
  | .bool b=>some (b==a)
  | .undef=>some false
  | _=>none
def put(σ:AS)(d:Option Nat)(v:AV):AS:=
 match d with
 | some d=>{ σ with fr:=upd σ.fr d v }
 | none=>σ
def dT(σ:AS)(d:Option Nat):AS:=
 match d with
 | some d=>{ σ with fr:=upd σ.fr d (aJ (σ.fr d)) }
 | none=>σ
def cM(G:aP)(o:AOper)(σ:AS):Option AS:=
 match fY σ.fr o.guard with
 | some true =>
  match kf G (o.dst.getD 0) o.ml o.k (o.args.map (ev σ.fr)) (rdm σ o.ml) with
  | some (v,m)=>some (put (dT (wrm σ m o.ml) o.dem) o.dst v)
  | none=>none
 | some false=>some (put σ o.dst .undef)
 | none=>none
def dF(G:aP):List AOper->AS->Option AS
 | [],σ=>some σ
 | o::os,σ=>(cM G o σ).bind (dF G os)
def cA(al:List Nat):AV->AV
 | .loc s off=>if s∈al then .any else .loc s off
 | v=>v
def scrub(al:List Nat)(σ:AS):AS:=
 { σ with fr:=λt=>cA al (σ.fr t),lo:=λs=>if s∈al then none else σ.lo s }
def forget(kill:List Nat)(σ:AS):AS:=
 { σ with fr:=λt=>if t∈kill then .any else cA kill (σ.fr t),lo:=λs=>if s∈kill then none else σ.lo s }
inductive AX where
 | norm | ex (id:Nat) | ret
 deriving DecidableEq
def gM(f:AS->Option (AX×AS)):Nat->AS->Option (AX×AS)
 | 0,_=>none
 | n+1,σ=>match f σ with
  | some (.norm,σ')=>gM f n σ'
  | r=>r
def eY(n:Nat)(G:aP):ACode->AS->Option (AX×AS)
 | .skip,σ=>some (.norm,σ)
 | .reg _ al ops kill,σ=>(dF G ops (scrub al σ)).map λσ'=>(.norm,forget kill σ')
 | .seq a b,σ=>match eY n G a σ with
  | some (.norm,σ')=>eY n G b σ'
  | r=>r
 | .cond c a b,σ=>match ev σ.fr c with
  | .bool t=>if t then eY n G a σ else eY n G b σ
  | _=>none
 | .block id a,σ=>match eY n G a σ with
  | some (.ex i,σ')=>if i=id then some (.norm,σ') else some (.ex i,σ')
  | r=>r
 | .loop kill a,σ=>gM (λσ=>eY n G a (forget kill σ)) n σ
 | .exit id,σ=>some (.ex id,σ)
 | .ret,σ=>some (.ret,σ)
inductive ARes where
 | tmp (t:Nat)
 | tmpD (t:Nat)
 | cell (t:Nat) (agg:Bool) (n:Nat)
def t6(σ:AS):ARes->Option AV
 | .tmp t=>some (fV (σ.fr t))
 | .tmpD t=>some (aJ (σ.fr t))
 | .cell t agg n=>match σ.fr t with
  | .loc s off=>(σ.lo s).bind λcells=>ldC agg off n cells
  | .ptr o off=>(σ.sh[o]?).bind λcells=>if bX cells then ldC agg off n cells else none
  | _=>none
def gZ:List AV->Bool
 | [.undef]=>true
 | _=>false
def dW:LL->LL->Bool
 | [],_=>true
 | x::xs,y::a=>(gZ x||!gZ y)&&dW xs a
 | _::_,[]=>false
def iT(keep:Bool)(sh0 sh:LL):AV->Option AV
 | .ss o off n z=>if keep then some (.ss o off n z) else if sh0.length<=o/\dW sh0 sh=true then nA sh (.ss o off n z) else none
 | x=>some x
def eH(keep:Bool)(sh0:LL)(σ:AS):List ARes->Option (List AV)
 | []=>some []
 | r::rs=>match (t6 σ r).bind (iT keep sh0 σ.sh),eH keep sh0 σ rs with
  | some v,some vs=>some (v::vs)
  | _,_=>none
structure AFun where
 nargs:Nat
 keep:Bool
 body:ACode
 res:List ARes
def nK(args:List AV)(sh:LL):AS:={ fr:=λt=>(args[t]?).getD .any,lo:=λ_=>none,sh:=sh }
def sH:AV->Bool
 | .int .. | .bool _ | .str _ | .nilp | .sl .. | .agg _=>true
 | _=>false
def lM(k:Bool):AV->Bool
 | .ptr ..=>k
 | .ss ..=>k
 | .mp _=>k
 | v=>sH v
def fP(n:Nat):AV->Bool
 | .ptr o _=>decide (o<n)
 | .ss o _ _ _=>decide (o<n)
 | .mp o=>decide (o<n)
 | _=>true
def pL(keep:Bool)(n0:Nat)(vs:List AV)(sh:LL):Option (AV×LL):=
 if vs.all (lM keep)=true/\(keep=true\/((sh.take n0).all λc=>c.all (fP n0))=true) then
  some ((match vs with | [v]=>v | vs=>.tup vs),if keep then sh else sh.take n0)
 else none
def yA(F:AFun)(sh0:LL):Option (AX×AS)->Option (AV×LL)
 | some (.ex _,_)=>none
 | some (_,σ)=>match eH F.keep sh0 σ F.res with
  | some vs=>pL F.keep sh0.length vs σ.sh
  | none=>none
 | none=>none
def O9(n:Nat)(G:aP)(F:AFun)(args:List AV)(sh:LL):Option (AV×LL):=
 if args.length=F.nargs then yA F sh (eY n G F.body (nK args sh)) else none
def oB(B:aP)(T:FuncId->Option AFun):Nat->aP
 | 0=>B
 | n+1=>λf args sh=>match B f args sh with
  | some r=>some r
  | none=>match T f with
   | some F=>O9 n (oB B T n) F args sh
   | none=>none
end Go.Av
namespace Go.Av
open Go.RowKit
variable{I:Value}{bv h:AV}{cd:List Value}{dq ow':Value->Nat->Nat->Prop}{du:Nat->Nat->Prop}{f:List AV}{fc:World}{gj:AV->Value->Prop}{j n q v:Nat}
variable [Gtab]
mutual
def aG(S:Nat->Nat->Prop)(w:World):AV->Value->Prop
 | .int k n,v=>v=.int k n
 | .bool b,v=>v=.bool b
 | .str s,v=>∃ b,v=.string b/\b.data.toList=s
 | .nilp,v=>v=.pointer none
 | .sl m z l,v=>∃ A c,v=.slice A l.length c/\l.length<=c/\(m=.full->c=l.length)/\m≠.own/\(l=[]\/∃ b o,A=some ⟨b,o,none⟩/\fC S w z l b o)
 | _,_=>False
def fC(S:Nat->Nat->Prop)(w:World):Nat->LL->Nat->Nat->Prop
 | _,[],_,_=>True
 | z,e::es,b,o=>e.length=z/\dR S w e b o/\fC S w z es b (o+z)
def dR(S:Nat->Nat->Prop)(w:World):List AV->Nat->Nat->Prop
 | [],_,_=>True
 | a::as,b,o=>(S b o/\∃ u,w.cell? ⟨b,o,none⟩=some u/\aG S w a u)/\dR S w as b (o+1)
end
section
variable{S S':Nat->Nat->Prop}{w w':World}
mutual
def aG.mono(h:∀ b o,S b o->S' b o/\w'.cell? ⟨b,o,none⟩=w.cell? ⟨b,o,none⟩):∀ (x:AV) (v:Value),aG S w x v->aG S' w' x v
 | .int ..,_,r=>by simpa [aG] using r
 | .bool _,_,r=>by simpa [aG] using r
 | .str _,_,r=>by simpa [aG] using r
 | .nilp,_,r=>by simpa [aG] using r
 | .sl m z l,v,r=>by
  simp only[aG] at r ⊢;obtain⟨A,c,d,e,f,g,a⟩:=r;refine⟨A,c,d,e,f,g,?_⟩;rcases a with a | ⟨b,o,i,j⟩
  ·exact .inl a
  ·exact .inr ⟨b,o,i,fC.mono h z l b o j⟩
 | .any,_,r=>by simp [aG] at r
 | .undef,_,r=>by simp [aG] at r
 | .ptr ..,_,r=>by simp [aG] at r
 | .loc ..,_,r=>by simp [aG] at r
 | .ip _,_,r=>by simp [aG] at r
 | .fn ..,_,r=>by simp [aG] at r
 | .agg _,_,r=>by simp [aG] at r
 | .tup _,_,r=>by simp [aG] at r
 | .ss ..,_,r=>by simp [aG] at r
 | .mp _,_,r=>by simp [aG] at r
 | .mapv _,_,r=>by simp [aG] at r
 | .aggR _,_,r=>by simp [aG] at r
def fC.mono(h:∀ b o,S b o->S' b o/\w'.cell? ⟨b,o,none⟩=w.cell? ⟨b,o,none⟩):∀ (z:Nat) (l:LL) (b o:Nat),fC S w z l b o->fC S' w' z l b o
 | _,[],_,_,_=>by simp [fC]
 | z,e::es,b,o,r=>by
  simp only[fC] at r ⊢;exact⟨r.1,dR.mono h e b o r.2.1,fC.mono h z es b (o+z) r.2.2⟩
def dR.mono(h:∀ b o,S b o->S' b o/\w'.cell? ⟨b,o,none⟩=w.cell? ⟨b,o,none⟩):∀ (l:List AV) (b o:Nat),dR S w l b o->dR S' w' l b o
 | [],_,_,_=>by simp [dR]
 | a::as,b,o,r=>by
  simp only[dR] at r ⊢;obtain⟨⟨c,u,d,e⟩,f⟩:=r;exact⟨⟨(h b o c).1,u,(h b o c).2.trans d,aG.mono h a u e⟩,dR.mono h as b (o+1) f⟩
end
def dR.get:∀ {l:List AV} {b o:Nat},dR S w l b o->∀ {j:Nat} {x:AV},l[j]?=some x->S b (o+j)/\∃ u,w.cell? ⟨b,o+j,none⟩=some u/\aG S w x u
 | [],_,_,_,_,_,c=>by simp at c
 | a::as,b,o,r,0,x,c=>by
  simp only[dR] at r;simp at c;subst c;exact r.1
 | a::as,b,o,r,j+1,x,c=>by
  simp only[dR] at r
  have:=dR.get r.2 (j:=j) (x:=x) (by simpa using c)
  rwa [show o+1+j=o+(j+1) from by omega] at this
def dR.mk:∀ {l:List AV} {b o:Nat},(∀ j x,l[j]?=some x->S b (o+j)/\∃ u,w.cell? ⟨b,o+j,none⟩=some u/\aG S w x u)->dR S w l b o
 | [],_,_,_=>by simp [dR]
 | a::as,b,o,h=>by
  simp only[dR];refine⟨by simpa using h 0 a rfl,dR.mk λj x c=>?_⟩
  have:=h (j+1) x (by simpa using c)
  rwa [show o+1+j=o+(j+1) from by omega]
def dR.drop(h:dR S w f q v)(n:Nat):dR S w (f.drop n) q (v+n):=
 dR.mk λj x a=>by
  rw[tb] at a;rw[La];exact h.get a
def fC.get:∀ {z:Nat} {l:LL} {b o:Nat},fC S w z l b o->∀ {i:Nat} {e:List AV},l[i]?=some e->e.length=z/\dR S w e b (o+i*z)
 | _,[],_,_,_,_,_,a=>by simp at a
 | z,e::es,b,o,r,0,x,a=>by
  simp only[fC] at r;simp at a;subst a;simpa using ⟨r.1,r.2.1⟩
 | z,e::es,b,o,r,i+1,x,a=>by
  simp only[fC] at r
  have:=fC.get r.2.2 (i:=i) (e:=x) (by simpa using a)
  rwa [show o+z+i*z=o+(i+1)*z from by rw[sa];omega] at this
def fC.mk:∀ {z:Nat} {l:LL} {b o:Nat},(∀ i e,l[i]?=some e->e.length=z/\dR S w e b (o+i*z))->fC S w z l b o
 | _,[],_,_,_=>by simp [fC]
 | z,e::es,b,o,h=>by
  simp only[fC];have a:=h 0 e rfl;refine⟨a.1,by simpa using a.2,fC.mk λi x c=>?_⟩
  have:=h (i+1) x (by simpa using c)
  rwa [show o+z+i*z=o+(i+1)*z from by rw[sa];omega]
end
def aM(R:AV->Value->Prop):List AV->List Value->Prop
 | [],[]=>True
 | a::as,v::vs=>R a v/\aM R as vs
 | _,_=>False
def aM.length{R:AV->Value->Prop}:∀ {l:List AV} {vs:List Value},aM R l vs->vs.length=l.length
 | [],[],_=>rfl
 | _::_,_::_,h=>by simp [aM.length h.2]
 | [],_::_,h=>by simp [aM] at h
 | _::_,[],h=>by simp [aM] at h
def aM.mono{R a:AV->Value->Prop}(b:∀ x v,R x v->a x v):∀ {l:List AV} {vs:List Value},aM R l vs->aM a l vs
 | [],[],_=>trivial
 | _::_,_::_,h=>⟨b _ _ h.1,aM.mono b h.2⟩
 | [],_::_,h=>by simp [aM] at h
 | _::_,[],h=>by simp [aM] at h
def aM.get{R:AV->Value->Prop}:∀ {l:List AV} {vs:List Value},aM R l vs->∀ {j:Nat} {x:AV},l[j]?=some x->∃ v,vs[j]?=some v/\R x v
 | a::_,v::_,h,0,x,b=>⟨v,rfl,by simp at b;subst b;exact h.1⟩
 | _::as,_::vs,h,j+1,x,b=>by
  obtain⟨v,d,c⟩:=aM.get h.2 (j:=j) (x:=x) (by simpa using b);exact⟨v,by simpa using d,c⟩
 | [],[],_,_,_,b=>by simp at b
 | [],_::_,h,_,_,_=>by simp [aM] at h
 | _::_,[],h,_,_,_=>by simp [aM] at h
def aM.getv(h:aM gj f cd)(c:cd[j]?=some I):∃ x,f[j]?=some x/\gj x I:=by
 have b:j<f.length:=by
  have:=(jh.1 c).1
  rw[h.length] at this;exact this
 obtain⟨e,a,d⟩:=h.get (ii b);rw[c] at a;cases a;exact⟨_,ii b,d⟩
def aM.append{R:AV->Value->Prop}:∀ {l c:List AV} {vs a:List Value},aM R l vs->aM R c a->aM R (l++c) (vs++a)
 | [],_,[],_,_,b=>b
 | _::_,_,_::_,_,h,b=>⟨h.1,aM.append h.2 b⟩
 | [],_,_::_,_,h,_=>by simp [aM] at h
 | _::_,_,[],_,h,_=>by simp [aM] at h
def aM.take{R:AV->Value->Prop}:∀ {l:List AV} {vs:List Value} (n:Nat),aM R l vs->aM R (l.take n) (vs.take n)
 | _,_,0,_=>by simp [aM]
 | [],[],_+1,_=>by simp [aM]
 | _::_,_::_,n+1,h=>⟨h.1,aM.take n h.2⟩
 | [],_::_,_+1,h=>by simp [aM] at h
 | _::_,[],_+1,h=>by simp [aM] at h
def aM.drop{R:AV->Value->Prop}:∀ {l:List AV} {vs:List Value} (n:Nat),aM R l vs->aM R (l.drop n) (vs.drop n)
 | _,_,0,h=>by simpa using h
 | [],[],_+1,_=>by simp [aM]
 | _::_,_::_,n+1,h=>by simpa using aM.drop n h.2
 | [],_::_,_+1,h=>by simp [aM] at h
 | _::_,[],_+1,h=>by simp [aM] at h
def ssz(off a z n:Nat):Prop:=off+a*z<=n / 2/\(z≠1->off+a*z=n / 2/\n % 2=1)
def tQ(h:j+q*v=n / 2)(a:n % 2=1):ssz j q v n:=⟨by omega,λ_=>⟨h,a⟩⟩
def MK{R:Nat}(h:ssz j q v n)(hi:R<=q):ssz (j+R*v) (q-R) v n:=by
 have e:j+R*v+(q-R)*v=j+q*v:=by
  rw[Nat.sub_mul,La]
  congr 1
  have:R*v<=q*v:=ab0 _ hi
  omega
 unfold ssz;rw[e];exact h
structure Cx where
 S:Nat->Nat->Prop
 w:World
 β:Nat->Nat
 bs:Nat->Nat
 lam:Nat->Nat
 shn:Nat
 live:Nat->Prop
variable{Z:Cx}
def aR(c:Cx):AV->Value->Prop
 | .ptr o off,v=>o<c.shn/\v=.pointer (some ⟨c.β o,off,none⟩)
 | .ss o off n z,v=>o<c.shn/\∃ a,v=.slice (some ⟨c.β o,off,none⟩) n a/\n<=a/\ssz off a z (c.bs o)
 | .mp o,v=>o<c.shn/\v=.map (some (c.β o))
 | .agg l,v=>∃ cs,v=.agg cs/\aM (aG c.S c.w) l cs.toList
 | x,v=>aG c.S c.w x v
def bO(c:Cx)(ow:Value->Nat->Nat->Prop):AV->Value->Prop
 | .any,_=>True
 | .sl .own z l,v=>aG c.S c.w (.sl .no z l) v/\ow v z l.length
 | x,v=>aR c x v
def aX:Value->Nat->Nat->Prop:=λ_ _ _=>False
def aV(c:Cx)(ow:Value->Nat->Nat->Prop):AV->Value->Prop
 | .any,_=>True
 | .undef,v=>v=undef
 | .loc s off,v=>c.live s/\v=.pointer (some ⟨c.lam s,off,none⟩)
 | .ip l,v=>∃ b o,v=.pointer (some ⟨b,o,none⟩)/\dR c.S c.w l b o
 | .fn f caps,v=>∃ a,v=.func (.func f) #[] a/\aM (aR c) caps a.toList
 | .sl .own z l,v=>aG c.S c.w (.sl .no z l) v/\ow v z l.length
 | .tup l,v=>∃ vs,v=.tuple vs/\aM (aR c) l vs.toList
 | .aggR l,v=>∃ cs,v=.agg cs/\aM (bO c aX) l cs.toList
 | x,v=>aR c x v
inductive Ow where
 | slot (t:Nat) | cell (i j:Nat)
inductive BK where
 | stab | shr (i:Nat) | loc (s:Nat) | own (t:Ow) (k:Nat)
structure Gh where
 β:Nat->Nat
 bs:Nat->Nat
 lam:Nat->Nat
 kd:Nat->BK
structure Env where
 w0:World
 S0:Nat->Nat->Prop
 β0:Nat->Nat
 bs0:Nat->Nat
 O0:Nat->Option Nat
 D0:Nat->Bool
 n0:Nat
 nt:Nat
def SS(E:Env)(g:Gh)(w:World)(b o:Nat):Prop:=
 (b<E.w0.heap.size/\E.S0 b o)\/(E.w0.heap.size<=b/\b<w.heap.size/\g.kd b=.stab)\/(b<w.heap.size/\∃ t k,g.kd b=.own t k/\o<k)
def d9(kd:Nat->BK)(w:World)(t:Ow)(v:Value)(z n:Nat):Prop:=
 ∃ A c,v=.slice A n c/\(c=n\/∃ b a d,A=some ⟨b,0,none⟩/\w.heap[b]?=some (.cells a d (0,0))/\a.size=c*z/\kd b=.own t (n*z))
def eF(c:Cx):LL->List MapEntry->Prop
 | [],[]=>True
 | [k,v]::r,e::es=>bD k=true/\bD v=true/\aR c k e.key/\aR c v e.val/\eF c r es
 | _,_=>False
def QP(a:Nat×Nat)(n:Nat):Prop:=a=(0,0)\/n<=a.1
def bsz(a:Nat×Nat)(m n:Nat):Prop:=m=n / 2/\(n % 2=1->a=(0,0))
def o6(c:Cx)(ow:Nat->Value->Nat->Nat->Prop)(w:World)(b n:Nat)(cells:List AV):Prop:=
 ∃ a e d,w.heap[b]?=some (.cells a e d)/\QP d a.size/\bsz d a.size n/\∀ (j:Nat) (x:AV),cells[j]?=some x->∃ v,a[j]?=some v/\bO c (ow j) x v
def p9(c:Cx)(w:World)(b:Nat):List AV->Prop
 | [.mapv l]=>∃ es a,w.heap[b]?=some (.map es a)/\eF c l es.toList
 | _=>True
def yB(c:Cx)(ow:Nat->Value->Nat->Nat->Prop)(w:World)(b n:Nat)(cells:List AV):Prop:=
 (bX cells=true->o6 c ow w b n cells)/\p9 c w b cells
def cx(E:Env)(g:Gh)(σ:AS)(w:World):Cx:=
 { S:=SS E g w,w:=w,β:=g.β,bs:=g.bs,lam:=g.lam,shn:=σ.sh.length,live:=λs=>(σ.lo s).isSome=true }
structure Sim (E:Env) (g:Gh) (σ:AS) (a:Act) (w:World):Prop where
 size:a.tmps.size=E.nt
 defers:a.defers=[]
 slots:∀ t,aV (cx E g σ w) (d9 g.kd w (.slot t)) (σ.fr t) (a.tmps.getD t undef)
 shr:∀ i cells,σ.sh[i]?=some cells->(cells≠aO->g.kd (g.β i)=.shr i/\yB (cx E g σ w) (λj=>d9 g.kd w (.cell i j)) w (g.β i) (g.bs i) cells)
 shr0:∀ i,i<E.n0->g.β i=E.β0 i/\g.bs i=E.bs0 i
 shr1:∀ i,i<σ.sh.length->E.n0<=i->E.w0.heap.size<=g.β i\/∃ j,j<E.n0/\E.β0 j=g.β i/\E.D0 j=false/\σ.sh[j]?=some aO
 dd:∀ i,i<E.n0->E.D0 i=true->σ.sh[i]?=some aO
 shrlt:∀ i,i<σ.sh.length->g.β i<w.heap.size
 shrk:∀ i,i<σ.sh.length->∃ j,g.kd (g.β i)=.shr j
 loc:∀ s cells,σ.lo s=some cells->g.kd (g.lam s)=.loc s/\E.w0.heap.size<=g.lam s/\o6 (cx E g σ w) (λ_=>aX) w (g.lam s) (2*cells.length) cells
 n0:E.n0<=σ.sh.length
 s0:∀ b o,E.S0 b o->b<E.w0.heap.size/\(∀ i,i<E.n0->E.β0 i≠b)/\∀ k,E.O0 b=some k->o<k
 o0:∀ b k,E.O0 b=some k->b<E.w0.heap.size/\(∀ i,i<E.n0->E.β0 i≠b)/\∃ t k',g.kd b=.own t k'/\k<=k'
 own0:∀ b t k,g.kd b=.own t k->E.w0.heap.size<=b\/(E.O0 b).isSome=true
 os:w.os=E.w0.os
 tape:w.tape=E.w0.tape
 output:w.output=E.w0.output
 hsize:E.w0.heap.size<=w.heap.size
 frame:∀ b,b<E.w0.heap.size->(∀ i,i<E.n0->E.β0 i≠b)->E.O0 b=none->w.heap[b]?=E.w0.heap[b]?
 sframe:∀ b o,E.S0 b o->w.cell? ⟨b,o,none⟩=E.w0.cell? ⟨b,o,none⟩
 gl:∀ i k l,Gtab.tab i=some (k,l)->dR E.S0 E.w0 (l.map (AV.int k)) i 0
section
variable{E:Env}{g g':Gh}{σ σ':AS}{a:Act}{w w':World}
structure Cx.le (c c':Cx):Prop where
 cell:∀ b o,c.S b o->c'.S b o/\c'.w.cell? ⟨b,o,none⟩=c.w.cell? ⟨b,o,none⟩
 shn:c.shn<=c'.shn
 β:∀ i,i<c.shn->c'.β i=c.β i
 bs:∀ i,i<c.shn->c'.bs i=c.bs i
 loc:∀ s,c.live s->c'.live s/\c'.lam s=c.lam s
def Cx.le.refl(c:Cx):Cx.le c c:=⟨λ_ _ h=>⟨h,rfl⟩,ji _,λ_ _=>rfl,λ_ _=>rfl,λ_ h=>⟨h,rfl⟩⟩
def aG.le{eo:Cx}(h:Cx.le Z eo)(r:aG Z.S Z.w bv I):aG eo.S eo.w bv I:=aG.mono h.cell _ _ r
def aR.mono{c c':Cx}(h:Cx.le c c')(x:AV)(v:Value)(r:aR c x v):aR c' x v:=by
 cases x<;>simp only[aR] at r ⊢<;>first | exact aG.mono h.cell _ _ r | skip
 ·rw[h.β _ r.1];exact⟨sc r.1 h.shn,r.2⟩
 ·obtain⟨cs,a,b⟩:=r
  exact⟨cs,a,b.mono (aG.mono h.cell)⟩
 ·rw[h.β _ r.1,h.bs _ r.1];exact⟨sc r.1 h.shn,r.2⟩
 ·rw[h.β _ r.1];exact⟨sc r.1 h.shn,r.2⟩
def bO.mono{c c':Cx}{ow ow':Value->Nat->Nat->Prop}(h:Cx.le c c')(x:AV)(v:Value)(a:∀ z l,x=.sl .own z l->ow v z l.length->ow' v z l.length)(r:bO c ow x v):bO c' ow' x v:=by
 cases x with
 | any=>trivial
 | sl m z l =>
  cases m with
  | own =>
   simp only[bO] at r ⊢;exact⟨aG.mono h.cell _ _ r.1,a z l rfl r.2⟩
  | no=>exact aR.mono h (.sl .no z l) v r
  | full=>exact aR.mono h (.sl .full z l) v r
 | undef=>exact aR.mono h .undef v r
 | int=>exact aR.mono h (.int _ _) v r
 | bool=>exact aR.mono h (.bool _) v r
 | str=>exact aR.mono h (.str _) v r
 | nilp=>exact aR.mono h .nilp v r
 | ptr=>exact aR.mono h (.ptr _ _) v r
 | loc s off=>exact aR.mono h (.loc s off) v r
 | ip l=>exact aR.mono h (.ip l) v r
 | fn f l=>exact aR.mono h (.fn f l) v r
 | agg=>exact aR.mono h (.agg _) v r
 | tup l=>exact aR.mono h (.tup l) v r
 | aggR l=>exact aR.mono h (.aggR l) v r
 | ss=>exact aR.mono h (.ss _ _ _ _) v r
 | mp=>exact aR.mono h (.mp _) v r
 | mapv l=>exact aR.mono h (.mapv l) v r
def aV.mono{c c':Cx}{ow ow':Value->Nat->Nat->Prop}(h:Cx.le c c')(x:AV)(v:Value)(g:∀ z l,x=.sl .own z l->ow v z l.length->ow' v z l.length)(r:aV c ow x v):aV c' ow' x v:=by
 cases x with
 | any=>trivial
 | undef=>exact r
 | int=>exact aR.mono h (.int _ _) v r
 | bool=>exact aR.mono h (.bool _) v r
 | str=>exact aR.mono h (.str _) v r
 | nilp=>exact aR.mono h .nilp v r
 | ptr=>exact aR.mono h (.ptr _ _) v r
 | ss=>exact aR.mono h (.ss _ _ _ _) v r
 | mp=>exact aR.mono h (.mp _) v r
 | mapv l=>exact aR.mono h (.mapv l) v r
 | agg=>exact aR.mono h (.agg _) v r
 | loc s off =>
  simp only[aV] at r ⊢;exact⟨(h.loc s r.1).1,by rw[(h.loc s r.1).2];exact r.2⟩
 | ip l =>
  simp only[aV] at r ⊢;obtain⟨b,o,a,d⟩:=r;exact⟨b,o,a,dR.mono h.cell _ _ _ d⟩
 | fn f caps =>
  simp only[aV] at r ⊢;obtain⟨e,a,d⟩:=r;exact⟨e,a,d.mono (aR.mono h)⟩
 | tup l =>
  simp only[aV] at r ⊢;obtain⟨e,a,d⟩:=r;exact⟨e,a,d.mono (aR.mono h)⟩
 | aggR l =>
  simp only[aV] at r ⊢;obtain⟨e,a,d⟩:=r;exact⟨e,a,d.mono (λx v=>bO.mono h x v (λ_ _ _ q=>q))⟩
 | sl m z l =>
  cases m with
  | own =>
   simp only[aV] at r ⊢;exact⟨aG.mono h.cell _ _ r.1,g z l rfl r.2⟩
  | no=>exact aR.mono h (.sl .no z l) v r
  | full=>exact aR.mono h (.sl .full z l) v r
def eF.mono{c c':Cx}(h:Cx.le c c'):∀ {l:LL} {es:List MapEntry},eF c l es->eF c' l es
 | [],[],_=>trivial
 | [k,v]::l,e::es,r=>by
  simp only[eF] at r ⊢;exact⟨r.1,r.2.1,aR.mono h _ _ r.2.2.1,aR.mono h _ _ r.2.2.2.1,eF.mono h r.2.2.2.2⟩
 | [],_::_,r=>by simp [eF] at r
 | []::_,_,r=>by simp [eF] at r
 | [_]::_,_,r=>by simp [eF] at r
 | (_::_::_::_)::_,_,r=>by simp [eF] at r
 | [_,_]::_,[],r=>by simp [eF] at r
def o6.mono{c c':Cx}{ow ow':Nat->Value->Nat->Nat->Prop}{b n:Nat}{cells:List AV}(h:Cx.le c c')(p:w'.heap[b]?=w.heap[b]?)
  (q:∀ j z l v,cells[j]?=some (.sl .own z l)->ow j v z l.length->ow' j v z l.length)(r:o6 c ow w b n cells):o6 c' ow' w' b n cells:=by
 obtain⟨a,u,f,g,s,i,k⟩:=r;refine⟨a,u,f,p.trans g,s,i,λj x d=>?_⟩;obtain⟨v,m,o⟩:=k j x d;exact⟨v,m,bO.mono h x v (λz l e=>by subst e;exact q j z l v d) o⟩
def p9.mono{c c':Cx}{b:Nat}{cells:List AV}(h:Cx.le c c')(e:w'.heap[b]?=w.heap[b]?)(r:p9 c w b cells):p9 c' w' b cells:=by
 unfold p9 at r ⊢;split
 ·obtain⟨es,cl,a,d⟩:=r
  exact⟨es,cl,e.trans a,d.mono h⟩
 ·trivial
def yB.mono{c c':Cx}{ow ow':Nat->Value->Nat->Nat->Prop}{b n:Nat}{cells:List AV}(h:Cx.le c c')(a:w'.heap[b]?=w.heap[b]?)
  (e:∀ j z l v,cells[j]?=some (.sl .own z l)->ow j v z l.length->ow' j v z l.length)(r:yB c ow w b n cells):yB c' ow' w' b n cells:=
 ⟨λd=>(r.1 d).mono h a e,r.2.mono h a⟩
def aV.dem(r:aV Z dq h I):aV Z ow' (aJ h) I:=by
 cases h with
 | sl m z l =>
  cases m<;>simp only[aJ,aV,aR] at r ⊢
  ·exact r
  ·exact r
  ·exact r.1
 | _=>exact r
def aV.str(r:aV Z dq h I):aV Z ow' (fV h) I:=by
 cases h with
 | sl m z l =>
  cases m with
  | no=>exact r
  | own=>exact r.1
  | full =>
   simp only[aV,aR,aG] at r;obtain⟨A,a,b,c,_,_,d⟩:=r;show aG Z.S Z.w (.sl .no z l) I;simp only[aG];exact⟨A,a,b,c,by simp,by simp,d⟩
 | _=>exact r
def aV.noown(a:aJ h=h)(r:aV Z dq h I):aV Z ow' h I:=by
 rw[<- a];exact r.dem
def iL{x:Obj}(e:fc.heap[n]?=some x):n<fc.heap.size:=by
 rcases aa7 n fc.heap.size with a | a
 ·exact a
 ·rw[Array.getElem?_eq_none a] at e;cases e
def o6.lt{c:Cx}{ow:Nat->Value->Nat->Nat->Prop}{b n:Nat}{cells:List AV}(h:o6 c ow w b n cells):b<w.heap.size:=by
 obtain⟨_,_,_,a,_⟩:=h;exact iL a
def Sim.put_(h:Sim E g σ a w)(hd:n<E.nt)(d:aV (cx E g σ w) (d9 g.kd w (.slot n)) bv I):
  Sim E g (put σ (some n) bv) (a.put (some n) I) w:=by
 refine { h with size:=?_,slots:=?_ }
 ·simpa [Act.put] using h.size
 ·intro t
  have c:n<a.tmps.size:=by rw[h.size];exact hd
  show aV (cx E g σ w) _ (upd σ.fr n bv t) ((a.tmps.setIfInBounds n I).getD t undef);unfold upd;by_cases b:t=n
  ·subst b
   simpa [mo,ai7,c] using d
  ·rw[ie b]
   have:(a.tmps.setIfInBounds n I).getD t undef=a.tmps.getD t undef:=by
    simp [mo,ad9 b]
   rw[this];exact h.slots t
def Sim.dem_(h:Sim E g σ a w)(d:Option Nat):Sim E g (dT σ d) a w:=by
 cases d with
 | none=>exact h
 | some d =>
  refine { h with slots:=?_ }
  intro t;show aV (cx E g σ w) _ (upd σ.fr d (aJ (σ.fr d)) t) _;unfold upd;by_cases b:t=d
  ·subst b;rw[iw rfl];exact (h.slots t).dem
  ·rw[ie b];exact h.slots t
def Sim.scrub_(h:Sim E g σ a w)(al:List Nat):Sim E g (scrub al σ) a w:=by
 have B:∀ x v,aR (cx E g σ w) x v->aR (cx E g (scrub al σ) w) x v:=by
  intro x v r;cases x<;>exact r
 have F:∀ ow x v,bO (cx E g σ w) ow x v->bO (cx E g (scrub al σ) w) ow x v:=by
  intro ow x v r
  cases x with
  | sl m z l=>cases m<;>exact r
  | _=>exact r
 have C:∀ ow b n cells,o6 (cx E g σ w) ow w b n cells->o6 (cx E g (scrub al σ) w) ow w b n cells:=by
  rintro ow b n cells ⟨q,K,D,d,I,f,c⟩
  refine⟨q,K,D,d,I,f,λj x p=>?_⟩;obtain⟨v,u,y⟩:=c j x p;exact⟨v,u,F _ _ _ y⟩
 have G:∀ l es,eF (cx E g σ w) l es->eF (cx E g (scrub al σ) w) l es:=by
  intro l
  induction l with
  | nil=>intro es r;cases es<;>exact r
  | cons e l J =>
   intro es r
   match e,es,r with
   | [k,v],e::es,r =>
    simp only[eF] at r ⊢;exact⟨r.1,r.2.1,B _ _ r.2.2.1,B _ _ r.2.2.2.1,J _ r.2.2.2.2⟩
   | [],_,r=>simp [eF] at r
   | [_],_,r=>simp [eF] at r
   | (_::_::_::_),_,r=>simp [eF] at r
   | [_,_],[],r=>simp [eF] at r
 refine { h with slots:=?_,loc:=?_,shr:=?_ }
 ·intro t
  show aV (cx E g (scrub al σ) w) _ (cA al (σ.fr t)) _;have r:=h.slots t;cases p:σ.fr t with
  | loc s off =>
   rw[p] at r;by_cases o:s∈al
   ·simp [cA,o,aV]
   ·simp only[cA,o,kz,aV,cx,scrub] at r ⊢;exact r
  | sl m z l =>
   rw[p] at r
   cases m<;>exact r
  | _ =>
   rw[p] at r;exact r
 ·intro i cells hi hd
  obtain⟨d,f,c⟩:=h.shr i cells hi hd;refine⟨d,λH=>C _ _ _ _ (f H),?_⟩;unfold p9 at c ⊢;split
  ·obtain⟨es,cl,u,y⟩:=c
   exact⟨es,cl,u,G _ _ y⟩
  ·trivial
 ·intro s cells A
  by_cases o:s∈al
  ·simp [scrub,o] at A
  ·simp [scrub,o] at A
   obtain⟨d,f,c⟩:=h.loc s cells A;exact⟨d,f,C _ _ _ _ c⟩
def Sim.forget_(h:Sim E g σ a w)(kill:List Nat):Sim E g (Av.forget kill σ) a w:=by
 have b:=h.scrub_ kill
 refine { b with slots:=?_ }
 intro t;show aV (cx E g (Av.scrub kill σ) w) _ (if t∈kill then .any else cA kill (σ.fr t)) _;split
 ·trivial
 ·exact b.slots t
def SS.lt(h:Sim E g σ a w){b n:Nat}(e:SS E g w b n):b<w.heap.size:=by
 rcases e with ⟨d,_⟩ | ⟨_,c,_⟩ | ⟨c,_⟩
 ·exact sc d h.hsize
 ·exact c
 ·exact c
def Sim.world(h:Sim E g σ a w)(M:w'.os=w.os)(B:w'.tape=w.tape)(G:w'.output=w.output)(I:w.heap.size<=w'.heap.size)
  (C:∀ b,b<w.heap.size->w'.heap[b]?=w.heap[b]?)(u:∀ b,b<w.heap.size->g'.kd b=g.kd b)(p:g'.β=g.β)(y:g'.bs=g.bs)(x:g'.lam=g.lam):Sim E g' σ a w'/\Cx.le (cx E g σ w) (cx E g' σ w'):=by
 have P:∀ b o,SS E g w b o->SS E g' w' b o/\w'.cell? ⟨b,o,none⟩=w.cell? ⟨b,o,none⟩:=by
  intro b o q;have d:b<w.heap.size:=SS.lt h q;refine⟨?_,by simp [World.cell?,C b d]⟩;rcases q with q | ⟨e,f,m⟩ | ⟨f,t,k,m,D⟩
  ·exact .inl q
  ·exact .inr (.inl ⟨e,by omega,by rw[u b d];exact m⟩)
  ·exact .inr (.inr ⟨by omega,t,k,by rw[u b d];exact m,D⟩)
 have r:Cx.le (cx E g σ w) (cx E g' σ w'):=⟨P,ji _,λi _=>by simp [cx,p],λi _=>by simp [cx,y],λs q=>⟨q,by simp [cx,x]⟩⟩
 have H:∀ t v z n,d9 g.kd w t v z n->d9 g'.kd w' t v z n:=by
  rintro t v z n ⟨A,c,e,f⟩
  refine⟨A,c,e,?_⟩;rcases f with f | ⟨b,J,R,m,D,N,O⟩
  ·exact .inl f
  ·exact .inr ⟨b,J,R,m,(C b (iL D)).trans D,N,(u b (iL D)).trans O⟩
 refine⟨{ h with os:=M.trans h.os,tape:=B.trans h.tape,output:=G.trans h.output,hsize:=ab1 h.hsize I,slots:=?_,shr:=?_,shr0:=?_,shr1:=?_,shrlt:=?_,shrk:=?_,loc:=?_,o0:=?_,own0:=?_,frame:=?_,sframe:=?_ },r⟩
 ·intro t
  exact aV.mono r _ _ (λ_ _ _=>H _ _ _ _) (h.slots t)
 ·intro i cells hi hd
  obtain⟨e,f⟩:=h.shr i cells hi hd;have d:=h.shrlt i (jh.1 hi).1;rw[p,y];exact⟨(u _ d).trans e,f.mono r (C _ d) (λj z l v _=>H _ _ _ _)⟩
 ·intro i hi;rw[p,y];exact h.shr0 i hi
 ·intro i hi Q;rw[p];exact h.shr1 i hi Q
 ·intro i hi;rw[p];exact sc (h.shrlt i hi) I
 ·intro i hi;rw[p,u _ (h.shrlt i hi)];exact h.shrk i hi
 ·intro s cells q
  obtain⟨e,f,m⟩:=h.loc s cells q;rw[x];exact⟨(u _ m.lt).trans e,f,m.mono r (C _ m.lt) (λj z l v _ h=>h)⟩
 ·intro b k L
  obtain⟨e,f,m⟩:=h.o0 b k L;refine⟨e,f,?_⟩;rw[u b (sc e h.hsize)];exact m
 ·intro b t k F
  rcases aa7 b w.heap.size with d | K
  ·rw[u b d] at F;exact h.own0 b t k F
  ·exact .inl (ab1 h.hsize K)
 ·intro b e f m
  exact (C b (sc e h.hsize)).trans (h.frame b e f m)
 ·intro b o q
  have d:=sc (h.s0 b o q).1 h.hsize;rw[<- h.sframe b o q];simp [World.cell?,C b d]
def Sim.alloc(h:Sim E g σ a w)(o:Obj)(k:BK):Sim E { g with kd:=upd g.kd w.heap.size k } σ a (w.alloc o)/\Cx.le (cx E g σ w) (cx E { g with kd:=upd g.kd w.heap.size k } σ (w.alloc o)):=
 h.world rfl rfl rfl (by simp) (λb c=>by show (w.heap.push o)[b]?=_;rw[Array.getElem?_push,ie (by omega)])
  (λb c=>by simp [upd,ae8 c]) rfl rfl rfl
def Sim.drawn(h:Sim E g σ a w)(n:Nat):Sim E g σ a { w with drawn:=n }:=
 (h.world (g':=g) (w':={ w with drawn:=n }) rfl rfl rfl (ji _) (λ_ _=>rfl) (λ_ _=>rfl) rfl rfl rfl).1
end
mutual
def okC:Value->AV->Bool
 | .int k n,.int k' n'=>k==k'&&n==n'
 | .bool b,.bool a=>b==a
 | .string b,.str s=>b.data.toList==s
 | .slice none 0 0,.sl .full _ []=>true
 | .slice none 0 0,.sl .no _ []=>true
 | .pointer none,.nilp=>true
 | _,_=>false
end
def okL:List Value->List AV->Bool
 | [],[]=>true
 | v::vs,a::as=>okC v a&&okL vs as
 | _,_=>false
def okV:Value->AV->Bool
 | .agg cs,.agg l=>okL cs.toList l
 | v,a=>okC v a
def eO(k:IntKind):List AV->List Int->Bool
 | [],[]=>true
 | .int k' n::l,m::a=>k==k'&&n==m&&eO k l a
 | _,_=>false
def VT(i:Nat)(l:List AV):Bool:=match Gtab.tab i with
 | some (k,a)=>eO k l a
 | none=>false
def C2{k:IntKind}:∀ {l:List AV} {b:List Int},eO k l b=true->l=b.map (AV.int k)
 | [],[],_=>rfl
 | .int k' n::l,m::f,h=>by
  simp only[eO,ir,Lh] at h;obtain⟨⟨c,d⟩,e⟩:=h;have a:k=k':=by simpa using c
  subst a d;rw[C2 e];rfl
 | [],_::_,h=>by simp [eO] at h
 | .int .. :: _,[],h=>by simp [eO] at h
 | .any::_,_,h=>by simp [eO] at h
 | .undef::_,_,h=>by simp [eO] at h
 | .bool _::_,_,h=>by simp [eO] at h
 | .str _::_,_,h=>by simp [eO] at h
 | .nilp::_,_,h=>by simp [eO] at h
 | .ptr .. :: _,_,h=>by simp [eO] at h
 | .loc .. :: _,_,h=>by simp [eO] at h
 | .ip _::_,_,h=>by simp [eO] at h
 | .sl .. :: _,_,h=>by simp [eO] at h
 | .fn .. :: _,_,h=>by simp [eO] at h
 | .agg _::_,_,h=>by simp [eO] at h
 | .tup _::_,_,h=>by simp [eO] at h
 | .ss .. :: _,_,h=>by simp [eO] at h
 | .mp _::_,_,h=>by simp [eO] at h
 | .mapv _::_,_,h=>by simp [eO] at h
 | .aggR _::_,_,h=>by simp [eO] at h
def okR:Operand->AR->Bool
 | .global i,.c (.ip l)=>VT i l
 | .tmp t,.t s=>t==s
 | .const v,.c a=>okV v a
 | .func f,.c (.fn b [])=>f==b
 | _,_=>false
def cR:List Operand->List AR->Bool
 | [],[]=>true
 | x::xs,r::rs=>okR x r&&cR xs rs
 | _,_=>false
def yN(h:okC I bv=true):aG du fc bv I:=by
 unfold okC at h
 split at h
 ·simp at h;simp [aG,h]
 ·simp at h;simp [aG,h]
 ·simp at h;exact⟨_,rfl,h⟩
 ·simp only[aG];exact⟨none,0,rfl,ji _,λ_=>rfl,by simp,.inl trivial⟩
 ·simp only[aG];exact⟨none,0,rfl,ji _,λ_=>rfl,by simp,.inl trivial⟩
 ·simp [aG]
 ·cases h
def kS{S:Nat->Nat->Prop}{w:World}:∀ {vs:List Value} {l:List AV},okL vs l=true->aM (aG S w) l vs
 | [],[],_=>trivial
 | v::vs,x::l,h=>by
  simp only[okL,ir] at h;exact⟨yN h.1,kS h.2⟩
 | [],_::_,h=>by simp [okL] at h
 | _::_,[],h=>by simp [okL] at h
def CT(h:okC I bv=true):aJ bv=bv/\(∀ c ow,aG c.S c.w bv I->aV c ow bv I):=by
 unfold okC at h
 split at h
 ·exact⟨rfl,λ_ _ r=>r⟩
 ·exact⟨rfl,λ_ _ r=>r⟩
 ·exact⟨rfl,λ_ _ r=>r⟩
 ·exact⟨rfl,λ_ _ r=>r⟩
 ·exact⟨rfl,λ_ _ r=>r⟩
 ·exact⟨rfl,λ_ _ r=>r⟩
 ·cases h
def NK(h:okV I bv=true):aV Z dq bv I:=by
 unfold okV at h
 split at h
 ·exact⟨_,rfl,kS h⟩
 ·exact (CT h).2 _ _ (yN h)
section
variable{E:Env}{g g':Gh}{σ:AS}{a:Act}{w w':World}
def Sim.tabR(h:Sim E g σ a w)(c:VT n f=true):dR (SS E g w) w f n 0:=by
 unfold VT at c
 split at c
 ·rename_i k i e
  rw[C2 c];exact dR.mono (λb o d=>⟨.inl ⟨(h.s0 b o d).1,d⟩,h.sframe b o d⟩) _ _ _ (h.gl n k i e)
 ·cases c
def Sim.ev_(h:Sim E g σ a w){x:Operand}{r:AR}(b:okR x r=true){ow:Value->Nat->Nat->Prop}:aV (cx E g σ w) ow (aJ (ev σ.fr r)) (a.eval x):=by
 unfold okR at b
 split at b
 ·exact⟨_,0,rfl,h.tabR b⟩
 ·simp at b
  subst b;exact (h.slots _).dem
 ·exact (NK (dq:=ow) b).dem
 ·simp at b
  subst b;exact⟨#[],rfl,trivial⟩
 ·cases b
end
def K6(P:Program)(t:TypeId):Bool:=match P.underlying t with | some (.struct _) | some (.array _ _)=>true | _=>false
def gL(P:Program)(t:TypeId)(agg:Bool)(n:Nat):Bool:=
 (P.underlying t).isSome&&K6 P t==agg&&(match P.info? t with | some i=>i.size==n | none=>false)
def jH(P:Program)(t:TypeId)(l:List AV):Bool:=
 match P.info? t with
 | some i=>(match i.zero with | some z=>okL z.cells.toList l | none=>false)&&i.size==l.length
 | none=>false
def G6:List Value->List AV->Bool
 | [],[]=>true
 | _::vs,.any::as=>G6 vs as
 | v::vs,a::as=>okC v a&&G6 vs as
 | _,_=>false
def qG(P:Program)(t:TypeId)(l:List AV):Bool:=
 match P.info? t with
 | some i=>(match i.zero with | some z=>G6 z.cells.toList l | none=>false)&&i.size==l.length
 | none=>false
def d5(ao:AOper):Bool:=ao.ml==.none&&ao.dem.isNone
def aY(P:Program)(t:TypeId):Option Nat:=(P.info? t).map (·.size)
def qL(P:Program)(t:TypeId):Nat->Option (Nat×Nat):=
 match P.underlying t with
 | some (.array _ e)=>(match P.info? e with | some c=>λi=>some (i*c.size,c.size) | none=>λ_=>none)
 | some (.struct a)=>(match a.toList.mapM (λf=>(P.info? f.type).map λi=>(f.offset,i.size)) with | some b=>λi=>b.toArray[i]? | none=>λ_=>none)
 | _=>λ_=>none
def sI(pl:Nat->Option (Nat×Nat)):List (Nat×Operand)->List (Nat×Nat)->Bool
 | [],[]=>true
 | (i,_)::ps,q::a=>pl i==some q&&sI pl ps a
 | _,_=>false
def lP(P:Program):List Field->Nat->List Nat->Bool
 | [],_,[]=>true
 | f::fs,n,k::ks=>f.name != "_" && f.offset==n&&(match P.underlying f.type,k with | some (.int _),0=>true | some .bool,1=>true | some .string,2=>true | _,_=>false)&&lP P fs (n+1) ks
 | _,_,_=>false
def pN(P:Program)(t:TypeId):Bool:=match P.underlying t with | some .string=>true | _=>false
def wN(P:Program)(t:TypeId)(k:IntKind):Bool:=match P.underlying t with | some (.int k')=>k==k' | _=>false
def iS(P:Program)(t:TypeId):Bool:=match P.underlying t with | some (.slice e)=>wN P e .u8 | _=>false
def AL(P:Program)(t:TypeId)(kk:List Nat):Bool:=
 match P.underlying t,kk with
 | some (.int _),[0]=>true
 | some .string,[2]=>true
 | _,_=>false
def MC(P:Program)(t:TypeId)(agg:Bool)(zero:List AV):Bool:=
 match (P.info? t).bind (·.zero) with
 | some (.agg cs)=>agg&&okL cs.toList zero
 | some v=>!agg&&(match zero with | [x]=>okC v x | _=>false)
 | none=>false
def NN(ao:AOper):Bool:=match ao.args with | [_,.t s]=>ao.dem==some s | [_,.c _]=>ao.dem.isNone | _=>false
def okK(P:Program)(o:Oper)(ao:AOper):Bool:=
 match o.op,ao.k with
 | .move x,.mv | .assign x,.mv=>cR [x] ao.args&&d5 ao
 | .move x,.mvo | .assign x,.mvo=>cR [x] ao.args&&ao.ml==.none&&(match ao.args with | [.t s]=>ao.dem==some s | _=>false)
 | .pick c x y,.pick=>cR [c,x,y] ao.args&&d5 ao
 | .alloc e,.alloc zero=>cR [] ao.args&&jH P e zero&&ao.dem.isNone&&ao.dst.isSome
 | .alloc e,.allocS zero=>cR [] ao.args&&qG P e zero&&ao.dem.isNone&&ao.dst.isSome
 | .box _ x,.box _=>cR [x] ao.args&&ao.dem.isNone&&ao.dst.isSome
 | .box _ x,.boxS _=>cR [x] ao.args&&ao.dem.isNone&&ao.dst.isSome
 | .build t a,.build zero pl=>cR (a.toList.map (·.2)) ao.args&&jH P t zero&&d5 ao&&sI (qL P t) a.toList pl &&
   (match P.underlying t with
    | some (.array _ e)=>(P.info? e).isSome
    | some (.struct b)=>(b.toList.mapM (λf=>(P.info? f.type).map λi=>(f.offset,i.size))).isSome
    | _=>false)
 | .build t a,.buildR zero pl=>cR (a.toList.map (·.2)) ao.args&&qG P t zero&&d5 ao&&sI (qL P t) a.toList pl &&
   (match P.underlying t with
    | some (.array _ e)=>(P.info? e).isSome
    | some (.struct b)=>(b.toList.mapM (λf=>(P.info? f.type).map λi=>(f.offset,i.size))).isSome
    | _=>false)
 | .buildSlice t len a,.mks z zero g pl=>cR (a.toList.map (·.2)) ao.args&&d5 ao&&len==g&&pl==a.toList.map (·.1) &&
   (match P.underlying t with
    | some (.slice e)=>aY P e==some z&&jH P e zero&&decide (len*z<=16777216)&&decide (0<z)
    | _=>false)
 | .load t x,.ld agg n=>cR [x] ao.args&&ao.dem.isNone&&gL P t agg n
 | .store t x y,.st n=>cR [x,y] ao.args&&ao.dem.isNone&&ao.dst.isNone&&aY P t==some n
 | .nilCheck x,.nilc=>cR [x] ao.args&&d5 ao
 | .binOp op _ x y _,.bin op'=>cR [x,y] ao.args&&d5 ao&&op==op'
 | .binOp op t x y _,.seq ne ks=>cR [x,y] ao.args&&d5 ao&&(if ne then op==.neq else op==.eql)&&(match P.underlying t with | some (.struct fs)=>!P.stoodInHeld t&&!P.eqGuardType P.depth t&&lP P fs.toList 0 ks | _=>false)
 | .binOp .eql t x (.const (.slice none 0 0)) _,.isn=>cR [x] ao.args&&d5 ao&&(match P.underlying t with | some (.slice _)=>true | _=>false)
 | .unOp op _ x,.un op'=>cR [x] ao.args&&d5 ao&&op==op'
 | .slice t x lo hi none,.slc str z l h=>cR (x::(lo.toList++hi.toList)) ao.args&&d5 ao&&lo.isSome==l&&hi.isSome==h &&
   (match P.underlying t with
    | some (.slice e)=>!str&&aY P e==some z
    | some .string=>str
    | _=>false)
 | .fieldAddr s x f,.fa off=>cR [x] ao.args&&d5 ao &&
   (match P.underlying s with
    | some (.struct fs)=>(match fs[f]? with | some f=>f.offset==off&&(match aY P f.type with | some n=>n != 0 | none=>false) | none=>false)
    | _=>false)
 | .indexAddr t x i,.ia z=>cR [x,i] ao.args&&d5 ao &&
   (match P.underlying t with
    | some (.slice e)=>aY P e==some z
    | _=>false)
 | .indexAddr t x i,.iaA z len=>cR [x,i] ao.args&&d5 ao &&
   (match P.underlying t with
    | some (.array n e)=>n==len&&aY P e==some z
    | _=>false)
 | .index t x i,.ixs=>cR [x,i] ao.args&&d5 ao&&(match P.underlying t with | some .string=>true | _=>false)
 | .call { callee:=.builtin .len,args:=xs,argTypes:=ts },.len str=>cR xs.toList ao.args&&d5 ao&&xs.size==1&&(match ts[0]? with | some t=>(match P.underlying t with | some .string=>str | some (.slice _)=>!str | _=>false) | none=>false)
 | .call { callee:=.builtin .max,args:=xs,.. },.mm true=>cR xs.toList ao.args&&d5 ao&&xs.size==2
 | .call { callee:=.builtin .min,args:=xs,.. },.mm false=>cR xs.toList ao.args&&d5 ao&&xs.size==2
 | .call { callee:=.builtin .append,args:=xs,argTypes:=ts },.app str z bytes=>cR xs.toList ao.args&&ao.ml==.none&&xs.size==2 &&
   (match ao.args with | .t s::_=>ao.dem==some s | .c _::_=>ao.dem.isNone | _=>false) &&
   (match ts.toList with
    | [t,u]=>(match P.underlying t with
     | some (.slice e)=>(match P.info? e with | some i=>i.size==z&&i.bytes==bytes&&(match i.zero with | some p=>p.cells.size==z | none=>false) | none=>false) &&
       (match P.underlying u with | some .string=>str | some (.slice _)=>!str | _=>false)
     | _=>false)
    | _=>false)
 | .makeFunc (.func f) first caps,.mkf d=>cR caps.toList ao.args&&d5 ao&&f==d&&first.isEmpty
 | .call { callee:=.value (.func f),args:=xs,.. },.call d=>cR xs.toList ao.args&&ao.dem.isNone&&f==d
 | .call { callee:=.value (.tmp t),args:=xs,.. },.callv=>cR (.tmp t::xs.toList) ao.args&&ao.dem.isNone
 | .extract x i,.ext q=>cR [x] ao.args&&d5 ao&&i==q
 | .load t x,.ldo=>cR [x] ao.args&&ao.dem.isNone&&gL P t false 1
 | .store t x y,.sto=>cR [x,y] ao.args&&NN ao&&ao.dst.isNone&&aY P t==some 1
 | .convert src dst x,.cvi k=>cR [x] ao.args&&d5 ao&&(P.underlying src).isSome&&wN P dst k
 | .convert src dst x,.s2b=>cR [x] ao.args&&ao.dem.isNone&&pN P src&&iS P dst
 | .convert src dst x,.b2s=>cR [x] ao.args&&ao.dem.isNone&&pN P dst&&iS P src
 | .makeSlice t l c,.mkl z zero bytes=>cR [l,c] ao.args&&ao.dem.isNone &&
   (match P.underlying t with
    | some (.slice e)=>aY P e==some z&&jH P e zero&&(match P.info? e with | some i=>i.bytes==bytes | none=>false)
    | _=>false)
 | .call { callee:=.builtin .append,args:=xs,argTypes:=ts },.appS str z bytes=>cR xs.toList ao.args&&ao.dem.isNone&&xs.size==2 &&
   (match ts.toList with
    | [t,u]=>(match P.underlying t with
     | some (.slice e)=>(match P.info? e with | some i=>i.size==z&&i.bytes==bytes&&(match i.zero with | some p=>p.cells.size==z | none=>false) | none=>false) &&
       (match P.underlying u with | some .string=>str | some (.slice _)=>!str | _=>false)
     | _=>false)
    | _=>false)
 | .makeMap _ none,.mkm=>cR [] ao.args&&ao.dem.isNone
 | .lookup t x k j,.lkp ok agg kk zero=>cR [x,k] ao.args&&ao.dem.isNone&&j==ok &&
   (match P.underlying t with
    | some (.map key elem)=>AL P key kk&&MC P elem agg zero
    | _=>false)
 | .mapUpdate t m k v,.mup kk=>cR [m,k,v] ao.args&&ao.dem.isNone&&ao.dst.isNone &&
   (match P.underlying t with
    | some (.map key _)=>AL P key kk
    | _=>false)
 | .index t x i,.ixA agg z len=>cR [x,i] ao.args&&d5 ao &&
   (match P.underlying t with
    | some (.array n e)=>n==len&&gL P e agg z
    | _=>false)
 | .binOp op _ x y _,.shf l=>cR [x,y] ao.args&&d5 ao&&(if l then op==.shl else op==.shr)
 | .call { callee:=.value (.func f),args:=xs,.. },.callR d=>cR xs.toList ao.args&&ao.dem.isNone&&f==d
 | .slice t x lo (some hi) none,.slx z l=>cR (x::(lo.toList++[hi])) ao.args&&ao.dem.isNone&&lo.isSome==l &&
   (match P.underlying t with
    | some (.slice e)=>aY P e==some z
    | _=>false)
 | .slice t x (some lo) (some hi) none,.sla len=>cR [x,lo,hi] ao.args&&ao.dem.isNone &&
   (match P.underlying t with
    | some (.array n e)=>n==len&&aY P e==some 1
    | _=>false)
 | .call { callee:=.builtin .copy,args:=xs,argTypes:=ts },.cpy z=>cR xs.toList ao.args&&ao.dem.isNone&&xs.size==2 &&
   (match ts.toList with
    | [t,_]=>(match P.underlying t with
     | some (.slice e)=>aY P e==some z
     | _=>false)
    | _=>false)
 | .slice t x none (some hi) none,.slt z=>cR [x,hi] ao.args&&ao.dem.isNone &&
   (match P.underlying t with
    | some (.slice e)=>aY P e==some z
    | _=>false)
 | _,_=>false
end Go.Av
