/- A part of the frame (Ev1 Ev2 Ev3). No conditions. -/
import Derived.Calls
import Derived.Orders
import Derived.Below
open List
set_option linter.unusedSimpArgs false
set_option linter.unusedVariables false
set_option linter.unusedSectionVars false
set_option maxRecDepth 100000
set_option maxHeartbeats 16000000
namespace Go.Av
class Gtab where
 tab:Nat→Option (IntKind × List Int)
abbrev A7:Gtab:=⟨fun _=>none⟩
inductive Own where
 | no | full | own
 deriving DecidableEq
inductive AV where
 | any
 | undef
 | int (k:IntKind) (n:Int)
 | bool (b:Bool)
 | str (s:List UInt8)
 | nilp
 | ptr (o off:Nat)
 | loc (s off:Nat)
 | ip (l:List AV)
 | sl (m:Own) (z:Nat) (l:List (List AV))
 | fn (f:FuncId) (caps:List AV)
 | agg (l:List AV)
 | tup (l:List AV)
 | ss (o off n z:Nat)
 | mp (o:Nat)
 | mapv (l:List (List AV))
 | aggR (l:List AV)
abbrev LL:=List (List AV)
inductive AR where
 | t (s:Nat)
 | c (a:AV)
inductive ML where
 | none | lo (s:Nat) | sh
 deriving DecidableEq
inductive AK where
 | mv | mvo | pick
 | alloc (zero:List AV) | allocS (zero:List AV) | box (n:Nat) | boxS (n:Nat)
 | build (zero:List AV) (pl:List (Nat × Nat))
 | mks (z:Nat) (zero:List AV) (len:Nat) (pl:List Nat)
 | shf (left:Bool)
 | ld (agg:Bool) (n:Nat) | st (n:Nat)
 | nilc
 | bin (op:BinOp) | beq (ne:Bool) | seq (ne:Bool) (ks:List Nat) | un (op:UnOp)
 | slc (str:Bool) (z:Nat) (lo hi:Bool)
 | fa (off:Nat) | fld (agg:Bool) (off n:Nat)
 | ia (z:Nat) | iaA (z len:Nat) | ixs
 | len (str:Bool) | mm (isMax:Bool)
 | app (str:Bool) (z bytes:Nat)
 | mkf (f:FuncId)
 | call (f:FuncId) | callv | callR (f:FuncId) | callvR
 | ext (i:Nat)
 | ldo | sto
 | cvi (k:IntKind) | s2b | b2s | mkl (z:Nat) (zero:List AV) (bytes:Nat) | appS (str:Bool) (z bytes:Nat) | clr (z:Nat) (zero:List AV)
 | slc0 (z:Nat)
 | mkm | lkp (ok:Bool) (agg:Bool) (kk:List Nat) (zero:List AV) | mup (kk:List Nat)
 | ixA (agg:Bool) (z len:Nat)
 | slx (z:Nat) (lo:Bool) | slm | cpy (z:Nat) | appC (z:Nat)
 | buildR (zero:List AV) (pl:List (Nat × Nat)) | sla (len:Nat)
structure AOper where
 dst:Option Nat
 k:AK
 args:List AR
 ml:ML
 dem:Option Nat
 guard:Option (Nat × Bool)
inductive ACode where
 | skip
 | reg (draw:Bool) (al:List Nat) (ops:List AOper) (kill:List Nat)
 | seq (a b:ACode)
 | cond (c:AR) (a b:ACode)
 | block (id:Nat) (a:ACode)
 | loop (kill:List Nat) (a:ACode)
 | exit (id:Nat)
 | ret
structure AS where
 fr:Nat->AV
 lo:Nat->Option (List AV)
 sh:LL
def upd {α:Type} (f:Nat->α) (k:Nat) (v:α):Nat->α:=fun i=>if i=k then v else f i
def ev (fr:Nat->AV):AR->AV
 | .t s=>fr s
 | .c a=>a
abbrev MV:=Option (List AV) × LL
def rdm (σ:AS):ML->MV
 | .none=>(none,[])
 | .lo s=>(σ.lo s,[])
 | .sh=>(none,σ.sh)
def wrm (σ:AS) (m:MV):ML->AS
 | .none=>σ
 | .lo s=>{ σ with lo:=upd σ.lo s m.1 }
 | .sh=>{ σ with sh:=m.2 }
def aH:AV->AV
 | .sl .own z l=>.sl .no z l
 | v=>v
def dO:AV->AV
 | .sl _ z l=>.sl .no z l
 | v=>v
def a8:AV->Bool
 | .int .. | .bool _ | .str _ | .nilp=>true
 | .sl m _ _=>m != .own
 | _=>false
def B5:AV->Bool
 | .ptr .. | .ss .. | .mp _=>true
 | _=>false
def rO:AV->AV
 | .sl .full z []=>.sl .full z []
 | v=>dO v
def bB (n:Nat):AV->Option (List AV)
 | .agg l=>if l.length=n then some l else none
 | v=>if n=1/\a8 (rO v)=true then some [rO v] else none
def frB (x:AV):Bool:=a8 x || B5 x
def dC (n:Nat):AV->Option (List AV)
 | .agg l=>if l.length=n then some l else none
 | .aggR l=>if l.length=n/\l.all frB=true then some l else none
 | v=>if n=1/\(a8 (dO v) || B5 v)=true then some [dO v] else none
def fC:AV->Bool
 | .sl .own _ _=>false
 | _=>true
def bJ:List AV:=[.undef]
def bV:List AV->Bool
 | [.mapv _]=>false
 | [.undef]=>false
 | _=>true
def eA (agg:Bool) (off n:Nat) (cells:List AV):Option AV:=
 let part:=(cells.drop off).take n
 if part.length=n then (if agg then some (.agg part) else match part with | [c]=>some c | _=>none) else none
def ldV:AV->Option AV
 | .mapv _=>none
 | .undef=>none
 | .sl .own z l=>some (.sl .no z l)
 | x=>some x
def ldC (agg:Bool) (off n:Nat) (cells:List AV):Option AV:=
 if agg then
  (if ((cells.drop off).take n).length=n/\((cells.drop off).take n).all (fun x=>a8 (aH x))=true then some (.agg (((cells.drop off).take n).map aH)) else none)
 else match cells[off]? with
  | some x=>ldV x
  | none=>none
def d6 (off:Nat) (cs cells:List AV):Option (List AV):=
 if off+cs.length<=cells.length then some (cells.take off++cs++cells.drop (off+cs.length)) else none
def shA (left:Bool):AV->AV->Option AV
 | .int k a,.int _ b=>if 0<=b then (if left then some (.int k (k.wrap (a*2 ^ (min b.toNat k.bits)))) else some (.int k (a.fdiv (2 ^ (min b.toNat k.bits))))) else none
 | _,_=>none
def dS (op:BinOp):AV->AV->Option AV
 | .int k a,.int k' b =>
  if k=k' then
   match op with
   | .add=>some (.int k (k.wrap (a+b)))
   | .sub=>some (.int k (k.wrap (a - b)))
   | .mul=>some (.int k (k.wrap (a*b)))
   | .quo=>if b=0 then none else some (.int k (k.wrap (a.tdiv b)))
   | .rem=>if b=0 then none else some (.int k (a.tmod b))
   | .eql=>some (.bool (a == b))
   | .neq=>some (.bool (a != b))
   | .lss=>some (.bool (decide (a < b)))
   | .leq=>some (.bool (decide (a<=b)))
   | .gtr=>some (.bool (decide (b < a)))
   | .geq=>some (.bool (decide (b<=a)))
   | .and=>some (.int k (k.wrap (((a % 2 ^ k.bits).toNat &&& (b % 2 ^ k.bits).toNat:Nat):Int)))
   | .or=>some (.int k (k.wrap (((a % 2 ^ k.bits).toNat ||| (b % 2 ^ k.bits).toNat:Nat):Int)))
   | _=>none
  else none
 | .str a,.str b =>
  match op with
  | .add=>if a.length+b.length<=140737488355328 then some (.str (a++b)) else none
  | .eql=>some (.bool (a == b))
  | .neq=>some (.bool (a != b))
  | .lss=>some (.bool (Op.bytesLess a b))
  | .leq=>some (.bool (Op.bytesLess a b || a == b))
  | .gtr=>some (.bool !(Op.bytesLess a b || a == b))
  | .geq=>some (.bool !(Op.bytesLess a b))
  | _=>none
 | _,_=>none
def eqL:List Nat->List AV->List AV->Option Bool
 | [],[],[]=>some true
 | 0 :: ks,.int k a :: xs,.int k' b :: ys=>if k=k' then (eqL ks xs ys).map fun r=>(a == b) && r else none
 | 1 :: ks,.bool a :: xs,.bool b :: ys=>(eqL ks xs ys).map fun r=>(a == b) && r
 | 2 :: ks,.str a :: xs,.str b :: ys=>(eqL ks xs ys).map fun r=>(a == b) && r
 | _,_,_=>none
def dJ:List AV->List (Nat × Nat)->List AV->Option (List AV)
 | cells,[],[]=>some cells
 | cells,(off,n) :: pl,x :: xs =>
  match bB n x with
  | some cs=>match d6 off cs cells with
   | some c'=>dJ c' pl xs
   | none=>none
  | none=>none
 | _,_,_=>none
def pW:List AV->List (Nat × Nat)->List AV->Option (List AV)
 | cells,[],[]=>some cells
 | cells,(off,n) :: pl,x :: xs =>
  match dC n x with
  | some cs=>match d6 off cs cells with
   | some c'=>pW c' pl xs
   | none=>none
  | none=>none
 | _,_,_=>none
def cH (z:Nat):Nat->List AV->LL
 | 0,_=>[]
 | n+1,cs=>cs.take z :: cH z n (cs.drop z)
def aV (zero:List AV):Nat->List AV
 | 0=>[]
 | n+1=>zero++aV zero n
def rD (n:Int):Option Nat:=if 0<=n then some n.toNat else none
def cR:Option AV->Nat->Option Nat
 | none,d=>some d
 | some (.int _ n),_=>rD n
 | some _,_=>none
def b8 (str:Bool) (z:Nat) (x:AV) (lo:Option AV) (hi:Option AV):Option AV:=
 match str,x with
 | false,.sl _ z' l =>
  match cR lo 0,cR hi l.length with
  | some i,some j=>if i<=j/\j<=l.length/\(z'=z\/l=[]) then some (.sl .no z ((l.take j).drop i)) else none
  | _,_=>none
 | false,.ss o off n z' =>
  match cR lo 0,cR hi n with
  | some i,some j=>if i<=j/\j<=n/\z'=z then (if i=0\/i < j then some (.ss o (off+i*z) (j - i) z) else some (.sl .no z [])) else none
  | _,_=>none
 | true,.str s =>
  match cR lo 0,cR hi s.length with
  | some i,some j=>if i<=j/\j<=s.length then some (.str ((s.take j).drop i)) else none
  | _,_=>none
 | _,_=>none
def aM (s:List UInt8):List (List AV):=s.map fun b=>[.int .u8 (b.toNat:Int)]
def iX (str:Bool) (z:Nat):AV->Option LL
 | .sl _ z2 l2=>if str=false/\(z2=z\/l2=[]) then some l2 else none
 | .str s=>if str=true/\z=1 then some (aM s) else none
 | _=>none
def cN (off n z:Nat) (cells:List AV):Option LL:=
 if 0 < z/\off+n*z<=cells.length/\((cells.drop off).take (n*z)).all (fun x=>a8 (aH x))=true then some (cH z n (((cells.drop off).take (n*z)).map aH)) else none
def jV (sh:LL):AV->Option AV
 | .ss o off n z=>(sh[o]?).bind fun cells=>(cN off n z cells).map fun l=>.sl .no z l
 | x=>some x
def qV (sh:LL):List AV->Option (List AV)
 | []=>some []
 | x :: xs=>match jV sh x,qV sh xs with
  | some y,some ys=>some (y :: ys)
  | _,_=>none
def qB:AV->Option UInt8
 | .int .u8 n=>some (UInt8.ofNat n.toNat)
 | _=>none
def aZ:LL->Option (List UInt8)
 | []=>some []
 | [c] :: r=>match qB c,aZ r with
  | some b,some bs=>some (b :: bs)
  | _,_=>none
 | _ :: _=>none
def eC (str:Bool) (z:Nat) (sh:LL):AV->Option LL
 | .ss o off n z'=>if str=false/\z'=z then (sh[o]?).bind fun cells=>cN off n z cells else none
 | x=>iX str z x
def iI (kk:List Nat) (x y:AV):Option Bool:=eqL kk [x] [y]
def lkA (kk:List Nat) (k:AV):LL->Option (Option AV)
 | []=>some none
 | [k',v] :: r=>match iI kk k k' with
  | some true=>some (some v)
  | some false=>lkA kk k r
  | none=>none
 | _ :: _=>none
def muA (kk:List Nat) (k v:AV):LL->Option LL
 | []=>some [[k,v]]
 | [k',v'] :: r=>match iI kk k k' with
  | some true=>some ([k,v] :: r)
  | some false=>(muA kk k v r).map ([k',v'] :: ·)
  | none=>none
 | _ :: _=>none
def lkR (ok agg:Bool) (zero:List AV):Option AV->Option AV
 | some v=>some (if ok then .tup [v,.bool true] else v)
 | none=>match agg,zero with
  | true,z=>some (if ok then .tup [.agg z,.bool false] else .agg z)
  | false,[z]=>some (if ok then .tup [z,.bool false] else z)
  | _,_=>none
def gP (sh:LL) (o:Nat):Option LL:=
 match sh[o]? with
 | some [.mapv l]=>some l
 | _=>none
abbrev aL:=FuncId->List AV->LL->Option (AV × LL)
def u4 (p:Bool):AV->Bool
 | .ptr ..=>p
 | .ss ..=>p
 | .mp _=>p
 | c=>a8 c
def d9 (p:Bool):AV->Bool
 | .loc ..=>false
 | .tup _=>false
 | .mapv _=>false
 | .aggR _=>false
 | .ptr ..=>p
 | .ss ..=>p
 | .mp _=>p
 | .fn _ caps=>caps.all (u4 p)
 | _=>true
def pv:Bool->AV->AV
 | true,x=>aH x
 | false,x=>dO x
def gV (G:aL) (ml:ML) (f:FuncId) (xs:List AV) (m:MV):Option (AV × MV):=
 match ml with
 | .sh=>if xs.all (d9 true) then (G f (xs.map aH) m.2).map fun r=>(r.1,(m.1,r.2)) else none
 | .none=>if xs.all (d9 false) then (G f (xs.map dO) []).bind fun r=>if r.2.isEmpty then some (r.1,m) else none else none
 | _=>none
def aY:AV->Bool
 | .int .. | .bool _ | .str _ | .nilp=>true
 | _=>false
def aP:AV->Bool
 | .agg l=>l.all aY
 | x=>aY x
def tV:AV->Bool
 | .tup l=>l.all aY
 | x=>aY x
def fV (G:aL) (ml:ML) (f:FuncId) (xs:List AV) (m:MV):Option (AV × MV):=
 match ml with
 | .sh=>(qV m.2 xs).bind fun ys=>if ys.all (d9 false) then (G f (ys.map dO) []).bind fun r=>if r.2.isEmpty && tV r.1 then some (r.1,m) else none else none
 | _=>none
def zR (z:Nat) (sh:LL) (x:AV) (lo:Option AV) (hi:AV):Option AV:=
 match x with
 | .ss o off n z'=>match cR lo 0,cR (some hi) n,sh[o]? with
  | some i,some j,some cells=>if i<=j/\off+j*z<=cells.length/\z'=z/\1 < z/\bV cells then (if i=0\/i < j then some (.ss o (off+i*z) (j - i) z) else some (.sl .no z [])) else none
  | _,_,_=>none
 | x=>b8 false z x lo (some hi)
def J3:AV->AV->AV->AV->Bool
 | .ss _ _ n _,.int _ i,.int _ j,.int _ k=>decide (0<=i/\i<=j/\j<=k/\k<=n)
 | .sl _ _ l,.int _ i,.int _ j,.int _ k=>decide (0<=i/\i<=j/\j<=k/\k<=l.length)
 | _,_,_,_=>false
def vK (n:Nat):AV->AV
 | .ss o off k z=>.ss o off (min k n) z
 | x=>x
def LW (z:Nat) (sh:LL) (y x:AV):Option (AV × LL):=
 match x with
 | .ss o off n z'=>(eC false z sh (vK n y)).bind fun l2=>if z'=z/\0 < z/\l2.length<=n then (sh[o]?).bind fun cells=>if bV cells then (d6 off l2.flatten cells).map fun c'=>(.int .i64 (l2.length:Int),sh.set o c') else none else none
 | _=>none
def DY (z:Nat) (sh:LL) (l2:Option LL) (x:AV):Option (AV × LL):=
 l2.bind fun l2=>match x with
  | .ss o off n z'=>if off=0/\z'=z/\1 < z then (sh[o]?).bind fun cells=>if bV cells/\(n+l2.length)*z<=cells.length then (d6 (n*z) l2.flatten cells).map fun c'=>(.ss o 0 (n+l2.length) z,sh.set o c') else none else none
  | _=>none
def kf0 (d:Nat) (ml:ML):AK->List AV->MV->Option (AV × MV)
 | .mv,[x],m=>some (aH x,m)
 | .mvo,[x],m=>some (x,m)
 | .pick,[.bool c,a,b],m=>some (aH (if c then a else b),m)
 | .alloc zero,[],m=>if ml=.lo d/\m.1.isNone then some (.loc d 0,(some zero,m.2)) else none
 | .allocS zero,[],m=>if ml=.sh then some (.ptr m.2.length 0,(m.1,m.2++[zero])) else none
 | .box n,[x],m=>if ml=.lo d/\m.1.isNone then (bB n x).map fun cs=>(.loc d 0,(some cs,m.2)) else none
 | .boxS n,[x],m=>if ml=.sh then (bB n x).map fun cs=>(.ptr m.2.length 0,(m.1,m.2++[cs])) else none
 | .build zero pl,xs,m=>(dJ zero pl xs).map fun cs=>(.agg cs,m)
 | .buildR zero pl,xs,m=>(pW zero pl xs).map fun cs=>(.aggR cs,m)
 | .sla len,[.ptr o off,.int _ i,.int _ j],m=>if ml=.sh/\0<=i/\i < j/\j<=len then (m.2[o]?).bind fun cells=>if bV cells/\off+len<=cells.length then some (.ss o (off+i.toNat) (j.toNat - i.toNat) 1,m) else none else none
 | .mks z zero len pl,xs,m =>
  (dJ (aV zero len) (pl.map fun i=>(i*z,z)) xs).map fun cs=>(.sl .full z (cH z len cs),m)
 | .ld agg n,[a],m =>
  match a with
  | .loc s off=>if ml=.lo s then m.1.bind fun cells=>(ldC agg off n cells).map fun v=>(v,m) else none
  | .ptr o off=>if ml=.sh then m.2[o]?.bind fun cells=>(ldC agg off n cells).map fun v=>(v,m) else none
  | .ip cells=>(eA agg 0 n cells).map fun v=>(v,m)
  | _=>none
 | .st n,[a,x],m =>
  match a with
  | .loc s off=>if ml=.lo s then m.1.bind fun cells=>(dC n x).bind fun cs=>(d6 off cs cells).map fun c'=>(.any,(some c',m.2)) else none
  | .ptr o off=>if ml=.sh then m.2[o]?.bind fun cells=>if bV cells then (dC n x).bind fun cs=>(d6 off cs cells).map fun c'=>(.any,(m.1,m.2.set o c')) else none else none
  | _=>none
 | .ldo,[.ptr o off],m =>
  if ml=.sh then m.2[o]?.bind fun cells=>if bV cells then (cells[off]?).bind fun x=>match x with
   | .sl .own z l=>some (x,(m.1,m.2.set o (cells.set off (.sl .no z l))))
   | .sl .full _ _=>some (x,m)
   | _=>none else none else none
 | .sto,[.ptr o off,x],m =>
  if ml=.sh then m.2[o]?.bind fun cells=>if bV cells/\off < cells.length then match x with
   | .sl _ _ _=>some (.any,(m.1,m.2.set o (cells.set off x)))
   | _=>none else none else none
 | .nilc,[x],m =>
  match x with
  | .ptr .. | .loc .. | .ip _=>some (x,m)
  | _=>none
 | .shf l,[x,y],m=>(shA l x y).map fun v=>(v,m)
 | .cvi k,[.int _ n],m=>some (.int k (k.wrap n),m)
 | .s2b,[.str s],m=>if ml=.sh/\s.length<=140737488355328 then some (.ss m.2.length 0 s.length 1,(m.1,m.2++[s.map fun b=>.int .u8 (b.toNat:Int)])) else none
 | .b2s,[x],m =>
  match x with
  | .sl _ z l=>if z=1 then (aZ l).map fun s=>(.str s,m) else none
  | .ss _ _ _ z=>if ml=.sh/\z=1 then (eC false 1 m.2 x).bind fun l=>(aZ l).map fun s=>(.str s,m) else none
  | _=>none
 | .mkl z zero bytes,[.int k n,.int k' c],m =>
  if ml=.sh/\k=.i64/\k'=.i64/\0<=n/\n<=c/\c*bytes<=140737488355328/\c<=4611686018427387904/\0 < z/\zero.length=z then some (.ss m.2.length 0 n.toNat z,(m.1,m.2++[aV zero n.toNat])) else none
 | .appS str z bytes,[x,y],m =>
  if ml=.sh then (eC str z m.2 y).bind fun l2=>match x with
   | .sl .full _ []=>if l2=[] then some (.sl .full z [],m) else if 0 < z/\l2.length*bytes<=140737488355328/\l2.length<=4611686018427387904 then some (.ss m.2.length 0 l2.length z,(m.1,m.2++[l2.flatten])) else none
   | .ss o off n z'=>if off=0/\z'=z/\0 < z/\(n+l2.length)*bytes<=140737488355328/\n+l2.length<=4611686018427387904 then
     (m.2[o]?).bind fun cells=>if bV cells/\n*z=cells.length/\cells.all fC then some (.ss m.2.length 0 (n+l2.length) z,(m.1,m.2.set o bJ++[cells++l2.flatten])) else none
    else none
   | _=>none
  else none
 | .clr z zero,[x],m =>
  match x with
  | .sl _ _ []=>some (.tup [],m)
  | .ss o off n z'=>if ml=.sh/\z'=z/\zero.length=z then (m.2[o]?).bind fun cells=>if bV cells then (d6 off (aV zero n) cells).map fun c'=>(.tup [],(m.1,m.2.set o c')) else none else none
  | _=>none
 | .slc0 z,[x],m =>
  match x with
  | .sl _ _ _=>some (.sl .full z [],m)
  | .ss _ _ _ _=>some (.sl .full z [],m)
  | _=>none
 | .mkm,[],m=>if ml=.sh then some (.mp m.2.length,(m.1,m.2++[[.mapv []]])) else none
 | .lkp ok agg kk zero,[.mp o,k],m =>
  if ml=.sh/\aY k=true then (gP m.2 o).bind fun l=>(lkA kk k l).bind fun r=>(lkR ok agg zero r).map fun v=>(v,m)
  else none
 | .mup kk,[.mp o,k,v],m =>
  if ml=.sh/\aP k=true/\aP v=true then
   (gP m.2 o).bind fun l=>(muA kk k v l).map fun l'=>(.any,(m.1,m.2.set o [.mapv l'])) else none
 | .ixA agg z len,[.agg l,.int _ i],m=>if 0<=i/\i < len/\l.length=len*z then (eA agg (i.toNat*z) z l).map fun v=>(v,m) else none
 | .bin op,[x,y],m=>(dS op x y).map fun v=>(v,m)
 | .beq ne,[.bool x,.bool y],m=>some (.bool (if ne then x != y else x == y),m)
 | .seq ne ks,[.agg x,.agg y],m=>(eqL ks x y).map fun b=>(.bool (if ne then !b else b),m)
 | .un op,[x],m =>
  match op,x with
  | .neg,.int k n=>some (.int k (k.wrap (0 - n)),m)
  | .not,.bool b=>some (.bool !b,m)
  | _,_=>none
 | .slc str z false false,[x],m=>(b8 str z x none none).map fun v=>(v,m)
 | .slc str z true false,[x,l],m=>(b8 str z x (some l) none).map fun v=>(v,m)
 | .slc str z false true,[x,h],m=>(b8 str z x none (some h)).map fun v=>(v,m)
 | .slc str z true true,[x,l,h],m=>(b8 str z x (some l) (some h)).map fun v=>(v,m)
 | .fa off,[a],m =>
  match a with
  | .loc s o=>some (.loc s (o+off),m)
  | .ptr i o=>some (.ptr i (o+off),m)
  | .ip l=>some (.ip (l.drop off),m)
  | _=>none
 | .fld agg off n,[.agg l],m=>(eA agg off n l).map fun v=>(v,m)
 | .ia z,[.sl _ z' l,.int _ i],m =>
  if z'=z/\0<=i then (l[i.toNat]?).map fun e=>(.ip e,m) else none
 | .ia z,[.ss o off n z',.int _ i],m =>
  if z'=z/\0<=i/\i < n then some (.ptr o (off+i.toNat*z),m) else none
 | .iaA z len,[a,.int _ i],m =>
  if 0<=i/\i < len then
   match a with
   | .loc s o=>some (.loc s (o+i.toNat*z),m)
   | .ptr p o=>some (.ptr p (o+i.toNat*z),m)
   | .ip l=>some (.ip (l.drop (i.toNat*z)),m)
   | _=>none
  else none
 | .ixs,[.str s,.int _ i],m=>if 0<=i then (s[i.toNat]?).map fun b=>(.int .u8 (b.toNat:Int),m) else none
 | .len false,[.sl _ _ l],m=>some (.int .i64 (l.length:Int),m)
 | .len false,[.ss _ _ n _],m=>some (.int .i64 (n:Int),m)
 | .len true,[.str s],m=>some (.int .i64 (s.length:Int),m)
 | .mm b,[.int k x,.int k' y],m=>if k=k' then some (.int k (if b then (if x < y then y else x) else (if y < x then y else x)),m) else none
 | .app str z bytes,[.sl md z' l,y],m =>
  (iX str z y).bind fun l2=>if (z'=z\/(l=[]/\md=.full))/\md≠.no/\0 < z/\(l.length+l2.length)*bytes<=140737488355328/\l.length+l2.length<=4611686018427387904 then some (.sl .own z (l++l2),m) else none
 | .mkf f,caps,m=>if caps.all (u4 true) then some (.fn f caps,m) else none
 | .ext i,[.tup l],m=>(l[i]?).map fun v=>(v,m)
 | .slx z false,[x,h],m=>if ml=.sh then (zR z m.2 x none h).map fun v=>(v,m) else none
 | .slx z true,[x,l,h],m=>if ml=.sh then (zR z m.2 x (some l) h).map fun v=>(v,m) else none
 | .slm,[x,i,j,k],m=>if J3 x i j k=true then some (.any,m) else none
 | .cpy z,[x,y],m=>if ml=.sh then (LW z m.2 y x).map fun r=>(r.1,(m.1,r.2)) else none
 | .appC z,[x,y],m=>if ml=.sh then (DY z m.2 (eC false z m.2 y) x).map fun r=>(r.1,(m.1,r.2)) else none
 | _,_,_=>none
def s9 (G:aL) (ml:ML) (xs:List AV) (m:MV):Option (AV × MV):=
 match xs with
 | .fn f caps :: xs=>gV G ml f (xs++caps) m
 | _=>none
def cJ (G:aL) (ml:ML) (xs:List AV) (m:MV):Option (AV × MV):=
 match xs with
 | .fn f caps :: xs=>fV G ml f (xs++caps) m
 | _=>none
def kf (G:aL) (d:Nat) (ml:ML) (k:AK) (xs:List AV) (m:MV):Option (AV × MV):=
 match k with
 | .call f=>gV G ml f xs m
 | .callv=>s9 G ml xs m
 | .callR f=>fV G ml f xs m
 | .callvR=>cJ G ml xs m
 | k=>kf0 d ml k xs m
def dA (fr:Nat->AV):Option (Nat × Bool)->Option Bool
 | none=>some true
 | some (s,want)=>match fr s with
  | .bool b=>some (b == want)
  | .undef=>some false
  | _=>none
def put (σ:AS) (d:Option Nat) (v:AV):AS:=
 match d with
 | some d=>{ σ with fr:=upd σ.fr d v }
 | none=>σ
def cI (σ:AS) (d:Option Nat):AS:=
 match d with
 | some d=>{ σ with fr:=upd σ.fr d (aH (σ.fr d)) }
 | none=>σ
def bO (G:aL) (o:AOper) (σ:AS):Option AS:=
 match dA σ.fr o.guard with
 | some true =>
  match kf G (o.dst.getD 0) o.ml o.k (o.args.map (ev σ.fr)) (rdm σ o.ml) with
  | some (v,m)=>some (put (cI (wrm σ m o.ml) o.dem) o.dst v)
  | none=>none
 | some false=>some (put σ o.dst .undef)
 | none=>none
def cD (G:aL):List AOper->AS->Option AS
 | [],σ=>some σ
 | o :: os,σ=>(bO G o σ).bind (cD G os)
def aS (al:List Nat):AV->AV
 | .loc s off=>if s∈al then .any else .loc s off
 | v=>v
def scrub (al:List Nat) (σ:AS):AS:=
 { σ with fr:=fun t=>aS al (σ.fr t),lo:=fun s=>if s∈al then none else σ.lo s }
def forget (kill:List Nat) (σ:AS):AS:=
 { σ with fr:=fun t=>if t∈kill then .any else aS kill (σ.fr t),lo:=fun s=>if s∈kill then none else σ.lo s }
inductive AX where
 | norm | ex (id:Nat) | ret
 deriving DecidableEq
def dI (f:AS->Option (AX × AS)):Nat->AS->Option (AX × AS)
 | 0,_=>none
 | n+1,σ=>match f σ with
  | some (.norm,σ')=>dI f n σ'
  | r=>r
def cX (n:Nat) (G:aL):ACode->AS->Option (AX × AS)
 | .skip,σ=>some (.norm,σ)
 | .reg _ al ops kill,σ=>(cD G ops (scrub al σ)).map fun σ'=>(.norm,forget kill σ')
 | .seq a b,σ=>match cX n G a σ with
  | some (.norm,σ')=>cX n G b σ'
  | r=>r
 | .cond c a b,σ=>match ev σ.fr c with
  | .bool t=>if t then cX n G a σ else cX n G b σ
  | _=>none
 | .block id a,σ=>match cX n G a σ with
  | some (.ex i,σ')=>if i=id then some (.norm,σ') else some (.ex i,σ')
  | r=>r
 | .loop kill a,σ=>dI (fun σ=>cX n G a (forget kill σ)) n σ
 | .exit id,σ=>some (.ex id,σ)
 | .ret,σ=>some (.ret,σ)
inductive ARes where
 | tmp (t:Nat)
 | tmpD (t:Nat)
 | cell (t:Nat) (agg:Bool) (n:Nat)
def sK (σ:AS):ARes->Option AV
 | .tmp t=>some (dO (σ.fr t))
 | .tmpD t=>some (aH (σ.fr t))
 | .cell t agg n=>match σ.fr t with
  | .loc s off=>(σ.lo s).bind fun cells=>ldC agg off n cells
  | .ptr o off=>(σ.sh[o]?).bind fun cells=>if bV cells then ldC agg off n cells else none
  | _=>none
def eQ:List AV->Bool
 | [.undef]=>true
 | _=>false
def cZ:LL->LL->Bool
 | [],_=>true
 | x :: xs,y :: ys=>(eQ x || !eQ y) && cZ xs ys
 | _ :: _,[]=>false
def fZ (keep:Bool) (sh0 sh:LL):AV->Option AV
 | .ss o off n z=>if keep then some (.ss o off n z) else if sh0.length<=o/\cZ sh0 sh=true then jV sh (.ss o off n z) else none
 | x=>some x
def dU (keep:Bool) (sh0:LL) (σ:AS):List ARes->Option (List AV)
 | []=>some []
 | r :: rs=>match (sK σ r).bind (fZ keep sh0 σ.sh),dU keep sh0 σ rs with
  | some v,some vs=>some (v :: vs)
  | _,_=>none
structure AFun where
 nargs:Nat
 keep:Bool
 body:ACode
 res:List ARes
def lR (args:List AV) (sh:LL):AS:={ fr:=fun t=>(args[t]?).getD .any,lo:=fun _=>none,sh:=sh }
def CC:AV->Bool
 | .int .. | .bool _ | .str _ | .nilp | .sl .. | .agg _=>true
 | _=>false
def kF (k:Bool):AV->Bool
 | .ptr ..=>k
 | .ss ..=>k
 | .mp _=>k
 | v=>CC v
def fB (n:Nat):AV->Bool
 | .ptr o _=>decide (o < n)
 | .ss o _ _ _=>decide (o < n)
 | .mp o=>decide (o < n)
 | _=>true
def t9 (keep:Bool) (n0:Nat) (vs:List AV) (sh:LL):Option (AV × LL):=
 if vs.all (kF keep)=true/\(keep=true\/((sh.take n0).all fun c=>c.all (fB n0))=true) then
  some ((match vs with | [v]=>v | vs=>.tup vs),if keep then sh else sh.take n0)
 else none
def DC (F:AFun) (sh0:LL):Option (AX × AS)->Option (AV × LL)
 | some (.ex _,_)=>none
 | some (_,σ)=>match dU F.keep sh0 σ F.res with
  | some vs=>t9 F.keep sh0.length vs σ.sh
  | none=>none
 | none=>none
def yT (n:Nat) (G:aL) (F:AFun) (args:List AV) (sh:LL):Option (AV × LL):=
 if args.length=F.nargs then DC F sh (cX n G F.body (lR args sh)) else none
def mV (B:aL) (T:FuncId->Option AFun):Nat->aL
 | 0=>B
 | n+1=>fun f args sh=>match B f args sh with
  | some r=>some r
  | none=>match T f with
   | some F=>yT n (mV B T n) F args sh
   | none=>none
end Go.Av
namespace Go.Av
open Go.RowKit
variable [Gtab]
mutual
def aD (S:Nat->Nat->Prop) (w:World):AV->Value->Prop
 | .int k n,v=>v=.int k n
 | .bool b,v=>v=.bool b
 | .str s,v=>∃ b,v=.string b/\b.data.toList=s
 | .nilp,v=>v=.pointer none
 | .sl m z l,v=>∃ A c,v=.slice A l.length c/\l.length<=c/\(m=.full->c=l.length)/\m≠.own/\(l=[]\/∃ b o,A=some ⟨b,o,none⟩/\dK S w z l b o)
 | _,_=>False
def dK (S:Nat->Nat->Prop) (w:World):Nat->LL->Nat->Nat->Prop
 | _,[],_,_=>True
 | z,e :: es,b,o=>e.length=z/\cW S w e b o/\dK S w z es b (o+z)
def cW (S:Nat->Nat->Prop) (w:World):List AV->Nat->Nat->Prop
 | [],_,_=>True
 | a :: as,b,o=>(S b o/\∃ u,w.cell? ⟨b,o,none⟩=some u/\aD S w a u)/\cW S w as b (o+1)
end
section
variable {S S':Nat->Nat->Prop} {w w':World}
mutual
theorem aD.mono (h:∀ b o,S b o->S' b o/\w'.cell? ⟨b,o,none⟩=w.cell? ⟨b,o,none⟩):∀ (x:AV) (v:Value),aD S w x v->aD S' w' x v
 | .int ..,_,r=>by simpa [aD] using r
 | .bool _,_,r=>by simpa [aD] using r
 | .str _,_,r=>by simpa [aD] using r
 | .nilp,_,r=>by simpa [aD] using r
 | .sl m z l,v,r=>by
  simp only[aD] at r ⊢;obtain⟨A,c,h1,h2,h3,h4,h5⟩:=r;refine⟨A,c,h1,h2,h3,h4,?_⟩;rcases h5 with h5 | ⟨b,o,h6,h7⟩
  ·exact .inl h5
  ·exact .inr ⟨b,o,h6,dK.mono h z l b o h7⟩
 | .any,_,r=>by simp [aD] at r
 | .undef,_,r=>by simp [aD] at r
 | .ptr ..,_,r=>by simp [aD] at r
 | .loc ..,_,r=>by simp [aD] at r
 | .ip _,_,r=>by simp [aD] at r
 | .fn ..,_,r=>by simp [aD] at r
 | .agg _,_,r=>by simp [aD] at r
 | .tup _,_,r=>by simp [aD] at r
 | .ss ..,_,r=>by simp [aD] at r
 | .mp _,_,r=>by simp [aD] at r
 | .mapv _,_,r=>by simp [aD] at r
 | .aggR _,_,r=>by simp [aD] at r
theorem dK.mono (h:∀ b o,S b o->S' b o/\w'.cell? ⟨b,o,none⟩=w.cell? ⟨b,o,none⟩):∀ (z:Nat) (l:LL) (b o:Nat),dK S w z l b o->dK S' w' z l b o
 | _,[],_,_,_=>by simp [dK]
 | z,e :: es,b,o,r=>by
  simp only[dK] at r ⊢;exact⟨r.1,cW.mono h e b o r.2.1,dK.mono h z es b (o+z) r.2.2⟩
theorem cW.mono (h:∀ b o,S b o->S' b o/\w'.cell? ⟨b,o,none⟩=w.cell? ⟨b,o,none⟩):∀ (l:List AV) (b o:Nat),cW S w l b o->cW S' w' l b o
 | [],_,_,_=>by simp [cW]
 | a :: as,b,o,r=>by
  simp only[cW] at r ⊢;obtain⟨⟨hs,u,hc,hr⟩,ht⟩:=r;exact⟨⟨(h b o hs).1,u,(h b o hs).2.trans hc,aD.mono h a u hr⟩,cW.mono h as b (o+1) ht⟩
end
theorem cW.get:∀ {l:List AV} {b o:Nat},cW S w l b o->∀ {j:Nat} {x:AV},l[j]?=some x->S b (o+j)/\∃ u,w.cell? ⟨b,o+j,none⟩=some u/\aD S w x u
 | [],_,_,_,_,_,hx=>by simp at hx
 | a :: as,b,o,r,0,x,hx=>by
  simp only[cW] at r;simp at hx;subst hx;exact r.1
 | a :: as,b,o,r,j+1,x,hx=>by
  simp only[cW] at r
  have:=cW.get r.2 (j:=j) (x:=x) (by simpa using hx)
  rwa [show o+1+j=o+(j+1) from by omega] at this
theorem cW.mk:∀ {l:List AV} {b o:Nat},(∀ j x,l[j]?=some x->S b (o+j)/\∃ u,w.cell? ⟨b,o+j,none⟩=some u/\aD S w x u)->cW S w l b o
 | [],_,_,_=>by simp [cW]
 | a :: as,b,o,h=>by
  simp only[cW];refine⟨by simpa using h 0 a rfl,cW.mk fun j x hx=>?_⟩
  have:=h (j+1) x (by simpa using hx)
  rwa [show o+1+j=o+(j+1) from by omega]
theorem cW.drop {l:List AV} {b o:Nat} (h:cW S w l b o) (n:Nat):cW S w (l.drop n) b (o+n):=
 cW.mk fun j x hx=>by
  rw[getElem?_drop] at hx;rw[Nat.add_assoc];exact h.get hx
theorem dK.get:∀ {z:Nat} {l:LL} {b o:Nat},dK S w z l b o->∀ {i:Nat} {e:List AV},l[i]?=some e->e.length=z/\cW S w e b (o+i*z)
 | _,[],_,_,_,_,_,hx=>by simp at hx
 | z,e :: es,b,o,r,0,x,hx=>by
  simp only[dK] at r;simp at hx;subst hx;simpa using ⟨r.1,r.2.1⟩
 | z,e :: es,b,o,r,i+1,x,hx=>by
  simp only[dK] at r
  have:=dK.get r.2.2 (i:=i) (e:=x) (by simpa using hx)
  rwa [show o+z+i*z=o+(i+1)*z from by rw[Nat.add_mul];omega] at this
theorem dK.mk:∀ {z:Nat} {l:LL} {b o:Nat},(∀ i e,l[i]?=some e->e.length=z/\cW S w e b (o+i*z))->dK S w z l b o
 | _,[],_,_,_=>by simp [dK]
 | z,e :: es,b,o,h=>by
  simp only[dK];have h0:=h 0 e rfl;refine⟨h0.1,by simpa using h0.2,dK.mk fun i x hx=>?_⟩
  have:=h (i+1) x (by simpa using hx)
  rwa [show o+z+i*z=o+(i+1)*z from by rw[Nat.add_mul];omega]
end
def aI (R:AV->Value->Prop):List AV->List Value->Prop
 | [],[]=>True
 | a :: as,v :: vs=>R a v/\aI R as vs
 | _,_=>False
theorem aI.length {R:AV->Value->Prop}:∀ {l:List AV} {vs:List Value},aI R l vs->vs.length=l.length
 | [],[],_=>rfl
 | _ :: _,_ :: _,h=>by simp [aI.length h.2]
 | [],_ :: _,h=>by simp [aI] at h
 | _ :: _,[],h=>by simp [aI] at h
theorem aI.mono {R R':AV->Value->Prop} (hr:∀ x v,R x v->R' x v):∀ {l:List AV} {vs:List Value},aI R l vs->aI R' l vs
 | [],[],_=>trivial
 | _ :: _,_ :: _,h=>⟨hr _ _ h.1,aI.mono hr h.2⟩
 | [],_ :: _,h=>by simp [aI] at h
 | _ :: _,[],h=>by simp [aI] at h
theorem aI.get {R:AV->Value->Prop}:∀ {l:List AV} {vs:List Value},aI R l vs->∀ {j:Nat} {x:AV},l[j]?=some x->∃ v,vs[j]?=some v/\R x v
 | a :: _,v :: _,h,0,x,hx=>⟨v,rfl,by simp at hx;subst hx;exact h.1⟩
 | _ :: as,_ :: vs,h,j+1,x,hx=>by
  obtain⟨v,hv,hr⟩:=aI.get h.2 (j:=j) (x:=x) (by simpa using hx);exact⟨v,by simpa using hv,hr⟩
 | [],[],_,_,_,hx=>by simp at hx
 | [],_ :: _,h,_,_,_=>by simp [aI] at h
 | _ :: _,[],h,_,_,_=>by simp [aI] at h
theorem aI.getv {R:AV->Value->Prop} {l:List AV} {vs:List Value} (h:aI R l vs) {j:Nat} {v:Value} (hv:vs[j]?=some v):∃ x,l[j]?=some x/\R x v:=by
 have hj:j < l.length:=by
  have:=(List.getElem?_eq_some_iff.1 hv).1
  rw[h.length] at this;exact this
 obtain⟨v',hv',hr⟩:=h.get (getElem?_eq_getElem hj);rw[hv] at hv';cases hv';exact⟨_,getElem?_eq_getElem hj,hr⟩
theorem aI.append {R:AV->Value->Prop}:∀ {l l':List AV} {vs vs':List Value},aI R l vs->aI R l' vs'->aI R (l++l') (vs++vs')
 | [],_,[],_,_,h'=>h'
 | _ :: _,_,_ :: _,_,h,h'=>⟨h.1,aI.append h.2 h'⟩
 | [],_,_ :: _,_,h,_=>by simp [aI] at h
 | _ :: _,_,[],_,h,_=>by simp [aI] at h
theorem aI.take {R:AV->Value->Prop}:∀ {l:List AV} {vs:List Value} (n:Nat),aI R l vs->aI R (l.take n) (vs.take n)
 | _,_,0,_=>by simp [aI]
 | [],[],_+1,_=>by simp [aI]
 | _ :: _,_ :: _,n+1,h=>⟨h.1,aI.take n h.2⟩
 | [],_ :: _,_+1,h=>by simp [aI] at h
 | _ :: _,[],_+1,h=>by simp [aI] at h
theorem aI.drop {R:AV->Value->Prop}:∀ {l:List AV} {vs:List Value} (n:Nat),aI R l vs->aI R (l.drop n) (vs.drop n)
 | _,_,0,h=>by simpa using h
 | [],[],_+1,_=>by simp [aI]
 | _ :: _,_ :: _,n+1,h=>by simpa using aI.drop n h.2
 | [],_ :: _,_+1,h=>by simp [aI] at h
 | _ :: _,[],_+1,h=>by simp [aI] at h
def ssz (off cp z n:Nat):Prop:=off+cp*z<=n / 2/\(z≠1->off+cp*z=n / 2/\n % 2=1)
theorem oU {off cp z n:Nat} (h:off+cp*z=n / 2) (h2:n % 2=1):ssz off cp z n:=⟨by omega,fun _=>⟨h,h2⟩⟩
theorem xA {off cp z n i:Nat} (h:ssz off cp z n) (hi:i<=cp):ssz (off+i*z) (cp - i) z n:=by
 have e:off+i*z+(cp - i)*z=off+cp*z:=by
  rw[Nat.sub_mul,Nat.add_assoc]
  congr 1
  have:i*z<=cp*z:=Nat.mul_le_mul_right _ hi
  omega
 unfold ssz;rw[e];exact h
structure Cx where
 S:Nat->Nat->Prop
 w:World
 β:Nat->Nat
 bs:Nat->Nat
 lam:Nat->Nat
 shn:Nat
 live:Nat->Prop
def aJ (c:Cx):AV->Value->Prop
 | .ptr o off,v=>o < c.shn/\v=.pointer (some ⟨c.β o,off,none⟩)
 | .ss o off n z,v=>o < c.shn/\∃ cp,v=.slice (some ⟨c.β o,off,none⟩) n cp/\n<=cp/\ssz off cp z (c.bs o)
 | .mp o,v=>o < c.shn/\v=.map (some (c.β o))
 | .agg l,v=>∃ cs,v=.agg cs/\aI (aD c.S c.w) l cs.toList
 | x,v=>aD c.S c.w x v
def aX (c:Cx) (ow:Value->Nat->Nat->Prop):AV->Value->Prop
 | .any,_=>True
 | .sl .own z l,v=>aD c.S c.w (.sl .no z l) v/\ow v z l.length
 | x,v=>aJ c x v
def aN:Value->Nat->Nat->Prop:=fun _ _ _=>False
def aK (c:Cx) (ow:Value->Nat->Nat->Prop):AV->Value->Prop
 | .any,_=>True
 | .undef,v=>v=undef
 | .loc s off,v=>c.live s/\v=.pointer (some ⟨c.lam s,off,none⟩)
 | .ip l,v=>∃ b o,v=.pointer (some ⟨b,o,none⟩)/\cW c.S c.w l b o
 | .fn f caps,v=>∃ cv,v=.func (.func f) #[] cv/\aI (aJ c) caps cv.toList
 | .sl .own z l,v=>aD c.S c.w (.sl .no z l) v/\ow v z l.length
 | .tup l,v=>∃ vs,v=.tuple vs/\aI (aJ c) l vs.toList
 | .aggR l,v=>∃ cs,v=.agg cs/\aI (aX c aN) l cs.toList
 | x,v=>aJ c x v
inductive Ow where
 | slot (t:Nat) | cell (i j:Nat)
inductive BK where
 | stab | shr (i:Nat) | loc (s:Nat) | own (t:Ow) (k:Nat)
structure Gh where
 β:Nat->Nat
 bs:Nat->Nat
 lam:Nat->Nat
 kd:Nat->BK
structure Env where
 w0:World
 S0:Nat->Nat->Prop
 β0:Nat->Nat
 bs0:Nat->Nat
 O0:Nat->Option Nat
 D0:Nat->Bool
 n0:Nat
 nt:Nat
def SS (E:Env) (g:Gh) (w:World) (b o:Nat):Prop:=
 (b < E.w0.heap.size/\E.S0 b o)\/(E.w0.heap.size<=b/\b < w.heap.size/\g.kd b=.stab)\/(b < w.heap.size/\∃ t k,g.kd b=.own t k/\o < k)
def c8 (kd:Nat->BK) (w:World) (t:Ow) (v:Value) (z n:Nat):Prop:=
 ∃ A c,v=.slice A n c/\(c=n\/∃ b arr ty,A=some ⟨b,0,none⟩/\w.heap[b]?=some (.cells arr ty (0,0))/\arr.size=c*z/\kd b=.own t (n*z))
def cP (c:Cx):LL->List MapEntry->Prop
 | [],[]=>True
 | [k,v] :: r,e :: es=>aP k=true/\aP v=true/\aJ c k e.key/\aJ c v e.val/\cP c r es
 | _,_=>False
def z9 (fz:Nat × Nat) (n:Nat):Prop:=fz=(0,0)\/n<=fz.1
def bsz (fz:Nat × Nat) (m n:Nat):Prop:=m=n / 2/\(n % 2=1->fz=(0,0))
def jT (c:Cx) (ow:Nat->Value->Nat->Nat->Prop) (w:World) (b n:Nat) (cells:List AV):Prop:=
 ∃ arr ty fz,w.heap[b]?=some (.cells arr ty fz)/\z9 fz arr.size/\bsz fz arr.size n/\∀ (j:Nat) (x:AV),cells[j]?=some x->∃ v,arr[j]?=some v/\aX c (ow j) x v
def kR (c:Cx) (w:World) (b:Nat):List AV->Prop
 | [.mapv l]=>∃ es clock,w.heap[b]?=some (.map es clock)/\cP c l es.toList
 | _=>True
def nT (c:Cx) (ow:Nat->Value->Nat->Nat->Prop) (w:World) (b n:Nat) (cells:List AV):Prop:=
 (bV cells=true->jT c ow w b n cells)/\kR c w b cells
def cx (E:Env) (g:Gh) (σ:AS) (w:World):Cx:=
 { S:=SS E g w,w:=w,β:=g.β,bs:=g.bs,lam:=g.lam,shn:=σ.sh.length,live:=fun s=>(σ.lo s).isSome=true }
structure Sim (E:Env) (g:Gh) (σ:AS) (a:Act) (w:World):Prop where
 size:a.tmps.size=E.nt
 defers:a.defers=[]
 slots:∀ t,aK (cx E g σ w) (c8 g.kd w (.slot t)) (σ.fr t) (a.tmps.getD t undef)
 shr:∀ i cells,σ.sh[i]?=some cells->(cells≠bJ->g.kd (g.β i)=.shr i/\nT (cx E g σ w) (fun j=>c8 g.kd w (.cell i j)) w (g.β i) (g.bs i) cells)
 shr0:∀ i,i < E.n0->g.β i=E.β0 i/\g.bs i=E.bs0 i
 shr1:∀ i,i < σ.sh.length->E.n0<=i->E.w0.heap.size<=g.β i\/∃ j,j < E.n0/\E.β0 j=g.β i/\E.D0 j=false/\σ.sh[j]?=some bJ
 dd:∀ i,i < E.n0->E.D0 i=true->σ.sh[i]?=some bJ
 shrlt:∀ i,i < σ.sh.length->g.β i < w.heap.size
 shrk:∀ i,i < σ.sh.length->∃ j,g.kd (g.β i)=.shr j
 loc:∀ s cells,σ.lo s=some cells->g.kd (g.lam s)=.loc s/\E.w0.heap.size<=g.lam s/\jT (cx E g σ w) (fun _=>aN) w (g.lam s) (2*cells.length) cells
 n0:E.n0<=σ.sh.length
 s0:∀ b o,E.S0 b o->b < E.w0.heap.size/\(∀ i,i < E.n0->E.β0 i≠b)/\∀ k,E.O0 b=some k->o < k
 o0:∀ b k,E.O0 b=some k->b < E.w0.heap.size/\(∀ i,i < E.n0->E.β0 i≠b)/\∃ t k',g.kd b=.own t k'/\k<=k'
 own0:∀ b t k,g.kd b=.own t k->E.w0.heap.size<=b\/(E.O0 b).isSome=true
 os:w.os=E.w0.os
 tape:w.tape=E.w0.tape
 output:w.output=E.w0.output
 hsize:E.w0.heap.size<=w.heap.size
 frame:∀ b,b < E.w0.heap.size->(∀ i,i < E.n0->E.β0 i≠b)->E.O0 b=none->w.heap[b]?=E.w0.heap[b]?
 sframe:∀ b o,E.S0 b o->w.cell? ⟨b,o,none⟩=E.w0.cell? ⟨b,o,none⟩
 gl:∀ i k l,Gtab.tab i=some (k,l)->cW E.S0 E.w0 (l.map (AV.int k)) i 0
section
variable {E:Env} {g g':Gh} {σ σ':AS} {a:Act} {w w':World}
structure Cx.le (c c':Cx):Prop where
 cell:∀ b o,c.S b o->c'.S b o/\c'.w.cell? ⟨b,o,none⟩=c.w.cell? ⟨b,o,none⟩
 shn:c.shn<=c'.shn
 β:∀ i,i < c.shn->c'.β i=c.β i
 bs:∀ i,i < c.shn->c'.bs i=c.bs i
 loc:∀ s,c.live s->c'.live s/\c'.lam s=c.lam s
theorem Cx.le.refl (c:Cx):Cx.le c c:=⟨fun _ _ h=>⟨h,rfl⟩,Nat.le_refl _,fun _ _=>rfl,fun _ _=>rfl,fun _ h=>⟨h,rfl⟩⟩
theorem aD.le {c c':Cx} (h:Cx.le c c') {x:AV} {v:Value} (r:aD c.S c.w x v):aD c'.S c'.w x v:=aD.mono h.cell _ _ r
theorem aJ.mono {c c':Cx} (h:Cx.le c c') (x:AV) (v:Value) (r:aJ c x v):aJ c' x v:=by
 cases x<;>simp only[aJ] at r ⊢<;>first | exact aD.mono h.cell _ _ r | skip
 ·rw[h.β _ r.1];exact⟨Nat.lt_of_lt_of_le r.1 h.shn,r.2⟩
 ·obtain⟨cs,h1,h2⟩:=r
  exact⟨cs,h1,h2.mono (aD.mono h.cell)⟩
 ·rw[h.β _ r.1,h.bs _ r.1];exact⟨Nat.lt_of_lt_of_le r.1 h.shn,r.2⟩
 ·rw[h.β _ r.1];exact⟨Nat.lt_of_lt_of_le r.1 h.shn,r.2⟩
theorem aX.mono {c c':Cx} {ow ow':Value->Nat->Nat->Prop} (h:Cx.le c c') (x:AV) (v:Value) (ho:∀ z l,x=.sl .own z l->ow v z l.length->ow' v z l.length) (r:aX c ow x v):aX c' ow' x v:=by
 cases x with
 | any=>trivial
 | sl m z l =>
  cases m with
  | own =>
   simp only[aX] at r ⊢;exact⟨aD.mono h.cell _ _ r.1,ho z l rfl r.2⟩
  | no=>exact aJ.mono h (.sl .no z l) v r
  | full=>exact aJ.mono h (.sl .full z l) v r
 | undef=>exact aJ.mono h .undef v r
 | int=>exact aJ.mono h (.int _ _) v r
 | bool=>exact aJ.mono h (.bool _) v r
 | str=>exact aJ.mono h (.str _) v r
 | nilp=>exact aJ.mono h .nilp v r
 | ptr=>exact aJ.mono h (.ptr _ _) v r
 | loc s off=>exact aJ.mono h (.loc s off) v r
 | ip l=>exact aJ.mono h (.ip l) v r
 | fn f l=>exact aJ.mono h (.fn f l) v r
 | agg=>exact aJ.mono h (.agg _) v r
 | tup l=>exact aJ.mono h (.tup l) v r
 | aggR l=>exact aJ.mono h (.aggR l) v r
 | ss=>exact aJ.mono h (.ss _ _ _ _) v r
 | mp=>exact aJ.mono h (.mp _) v r
 | mapv l=>exact aJ.mono h (.mapv l) v r
theorem aK.mono {c c':Cx} {ow ow':Value->Nat->Nat->Prop} (h:Cx.le c c') (x:AV) (v:Value) (ho:∀ z l,x=.sl .own z l->ow v z l.length->ow' v z l.length) (r:aK c ow x v):aK c' ow' x v:=by
 cases x with
 | any=>trivial
 | undef=>exact r
 | int=>exact aJ.mono h (.int _ _) v r
 | bool=>exact aJ.mono h (.bool _) v r
 | str=>exact aJ.mono h (.str _) v r
 | nilp=>exact aJ.mono h .nilp v r
 | ptr=>exact aJ.mono h (.ptr _ _) v r
 | ss=>exact aJ.mono h (.ss _ _ _ _) v r
 | mp=>exact aJ.mono h (.mp _) v r
 | mapv l=>exact aJ.mono h (.mapv l) v r
 | agg=>exact aJ.mono h (.agg _) v r
 | loc s off =>
  simp only[aK] at r ⊢;exact⟨(h.loc s r.1).1,by rw[(h.loc s r.1).2];exact r.2⟩
 | ip l =>
  simp only[aK] at r ⊢;obtain⟨b,o,h1,h2⟩:=r;exact⟨b,o,h1,cW.mono h.cell _ _ _ h2⟩
 | fn f caps =>
  simp only[aK] at r ⊢;obtain⟨cv,h1,h2⟩:=r;exact⟨cv,h1,h2.mono (aJ.mono h)⟩
 | tup l =>
  simp only[aK] at r ⊢;obtain⟨cv,h1,h2⟩:=r;exact⟨cv,h1,h2.mono (aJ.mono h)⟩
 | aggR l =>
  simp only[aK] at r ⊢;obtain⟨cv,h1,h2⟩:=r;exact⟨cv,h1,h2.mono (fun x v=>aX.mono h x v (fun _ _ _ q=>q))⟩
 | sl m z l =>
  cases m with
  | own =>
   simp only[aK] at r ⊢;exact⟨aD.mono h.cell _ _ r.1,ho z l rfl r.2⟩
  | no=>exact aJ.mono h (.sl .no z l) v r
  | full=>exact aJ.mono h (.sl .full z l) v r
theorem cP.mono {c c':Cx} (h:Cx.le c c'):∀ {l:LL} {es:List MapEntry},cP c l es->cP c' l es
 | [],[],_=>trivial
 | [k,v] :: l,e :: es,r=>by
  simp only[cP] at r ⊢;exact⟨r.1,r.2.1,aJ.mono h _ _ r.2.2.1,aJ.mono h _ _ r.2.2.2.1,cP.mono h r.2.2.2.2⟩
 | [],_ :: _,r=>by simp [cP] at r
 | [] :: _,_,r=>by simp [cP] at r
 | [_] :: _,_,r=>by simp [cP] at r
 | (_ :: _ :: _ :: _) :: _,_,r=>by simp [cP] at r
 | [_,_] :: _,[],r=>by simp [cP] at r
theorem jT.mono {c c':Cx} {ow ow':Nat->Value->Nat->Nat->Prop} {b n:Nat} {cells:List AV} (h:Cx.le c c') (hb:w'.heap[b]?=w.heap[b]?)
  (ho:∀ j z l v,cells[j]?=some (.sl .own z l)->ow j v z l.length->ow' j v z l.length) (r:jT c ow w b n cells):jT c' ow' w' b n cells:=by
 obtain⟨arr,ty,fz,h1,hz,h2,h3⟩:=r;refine⟨arr,ty,fz,hb.trans h1,hz,h2,fun j x hx=>?_⟩;obtain⟨v,h4,h5⟩:=h3 j x hx;exact⟨v,h4,aX.mono h x v (fun z l e=>by subst e;exact ho j z l v hx) h5⟩
theorem kR.mono {c c':Cx} {b:Nat} {cells:List AV} (h:Cx.le c c') (hb:w'.heap[b]?=w.heap[b]?) (r:kR c w b cells):kR c' w' b cells:=by
 unfold kR at r ⊢;split
 ·obtain⟨es,cl,h1,h2⟩:=r
  exact⟨es,cl,hb.trans h1,h2.mono h⟩
 ·trivial
theorem nT.mono {c c':Cx} {ow ow':Nat->Value->Nat->Nat->Prop} {b n:Nat} {cells:List AV} (h:Cx.le c c') (hb:w'.heap[b]?=w.heap[b]?)
  (ho:∀ j z l v,cells[j]?=some (.sl .own z l)->ow j v z l.length->ow' j v z l.length) (r:nT c ow w b n cells):nT c' ow' w' b n cells:=
 ⟨fun hk=>(r.1 hk).mono h hb ho,r.2.mono h hb⟩
theorem aK.dem {c:Cx} {ow ow':Value->Nat->Nat->Prop} {x:AV} {v:Value} (r:aK c ow x v):aK c ow' (aH x) v:=by
 cases x with
 | sl m z l =>
  cases m<;>simp only[aH,aK,aJ] at r ⊢
  ·exact r
  ·exact r
  ·exact r.1
 | _=>exact r
theorem aK.str {c:Cx} {ow ow':Value->Nat->Nat->Prop} {x:AV} {v:Value} (r:aK c ow x v):aK c ow' (dO x) v:=by
 cases x with
 | sl m z l =>
  cases m with
  | no=>exact r
  | own=>exact r.1
  | full =>
   simp only[aK,aJ,aD] at r;obtain⟨A,cp,h1,h2,_,_,h5⟩:=r;show aD c.S c.w (.sl .no z l) v;simp only[aD];exact⟨A,cp,h1,h2,by simp,by simp,h5⟩
 | _=>exact r
theorem aK.noown {c:Cx} {ow ow':Value->Nat->Nat->Prop} {x:AV} {v:Value} (hx:aH x=x) (r:aK c ow x v):aK c ow' x v:=by
 rw[<- hx];exact r.dem
theorem d7 {w:World} {b:Nat} {x:Obj} (e:w.heap[b]?=some x):b < w.heap.size:=by
 rcases Nat.lt_or_ge b w.heap.size with h' | h'
 ·exact h'
 ·rw[Array.getElem?_eq_none h'] at e;cases e
theorem jT.lt {c:Cx} {ow:Nat->Value->Nat->Nat->Prop} {b n:Nat} {cells:List AV} (h:jT c ow w b n cells):b < w.heap.size:=by
 obtain⟨_,_,_,h1,_⟩:=h;exact d7 h1
theorem Sim.put_ (h:Sim E g σ a w) {d:Nat} {x:AV} {v:Value} (hd:d < E.nt) (hx:aK (cx E g σ w) (c8 g.kd w (.slot d)) x v) :
  Sim E g (put σ (some d) x) (a.put (some d) v) w:=by
 refine { h with size:=?_,slots:=?_ }
 ·simpa [Act.put] using h.size
 ·intro t
  have hs:d < a.tmps.size:=by rw[h.size];exact hd
  show aK (cx E g σ w) _ (upd σ.fr d x t) ((a.tmps.setIfInBounds d v).getD t undef);unfold upd;by_cases ht:t=d
  ·subst ht
   simpa [Array.getD_eq_getD_getElem?,Array.getElem?_setIfInBounds,hs] using hx
  ·rw[if_neg ht]
   have:(a.tmps.setIfInBounds d v).getD t undef=a.tmps.getD t undef:=by
    simp [Array.getD_eq_getD_getElem?,Ne.symm ht]
   rw[this];exact h.slots t
theorem Sim.dem_ (h:Sim E g σ a w) (d:Option Nat):Sim E g (cI σ d) a w:=by
 cases d with
 | none=>exact h
 | some d =>
  refine { h with slots:=?_ }
  intro t;show aK (cx E g σ w) _ (upd σ.fr d (aH (σ.fr d)) t) _;unfold upd;by_cases ht:t=d
  ·subst ht;rw[if_pos rfl];exact (h.slots t).dem
  ·rw[if_neg ht];exact h.slots t
theorem Sim.scrub_ (h:Sim E g σ a w) (al:List Nat):Sim E g (scrub al σ) a w:=by
 have hE:∀ x v,aJ (cx E g σ w) x v->aJ (cx E g (scrub al σ) w) x v:=by
  intro x v r;cases x<;>exact r
 have hC:∀ ow x v,aX (cx E g σ w) ow x v->aX (cx E g (scrub al σ) w) ow x v:=by
  intro ow x v r
  cases x with
  | sl m z l=>cases m<;>exact r
  | _=>exact r
 have hO:∀ ow b n cells,jT (cx E g σ w) ow w b n cells->jT (cx E g (scrub al σ) w) ow w b n cells:=by
  rintro ow b n cells ⟨arr,ty,fz,h1,hz,h2,h3⟩
  refine⟨arr,ty,fz,h1,hz,h2,fun j x hx=>?_⟩;obtain⟨v,h4,h5⟩:=h3 j x hx;exact⟨v,h4,hC _ _ _ h5⟩
 have hM:∀ l es,cP (cx E g σ w) l es->cP (cx E g (scrub al σ) w) l es:=by
  intro l
  induction l with
  | nil=>intro es r;cases es<;>exact r
  | cons e l ih =>
   intro es r
   match e,es,r with
   | [k,v],e :: es,r =>
    simp only[cP] at r ⊢;exact⟨r.1,r.2.1,hE _ _ r.2.2.1,hE _ _ r.2.2.2.1,ih _ r.2.2.2.2⟩
   | [],_,r=>simp [cP] at r
   | [_],_,r=>simp [cP] at r
   | (_ :: _ :: _ :: _),_,r=>simp [cP] at r
   | [_,_],[],r=>simp [cP] at r
 refine { h with slots:=?_,loc:=?_,shr:=?_ }
 ·intro t
  show aK (cx E g (scrub al σ) w) _ (aS al (σ.fr t)) _;have r:=h.slots t;cases hx:σ.fr t with
  | loc s off =>
   rw[hx] at r;by_cases hs:s∈al
   ·simp [aS,hs,aK]
   ·simp only[aS,hs,if_false,aK,cx,scrub] at r ⊢;exact r
  | sl m z l =>
   rw[hx] at r
   cases m<;>exact r
  | _ =>
   rw[hx] at r;exact r
 ·intro i cells hi hd
  obtain⟨h1,h2,h3⟩:=h.shr i cells hi hd;refine⟨h1,fun hb=>hO _ _ _ _ (h2 hb),?_⟩;unfold kR at h3 ⊢;split
  ·obtain⟨es,cl,h4,h5⟩:=h3
   exact⟨es,cl,h4,hM _ _ h5⟩
  ·trivial
 ·intro s cells hc
  by_cases hs:s∈al
  ·simp [scrub,hs] at hc
  ·simp [scrub,hs] at hc
   obtain⟨h1,h2,h3⟩:=h.loc s cells hc;exact⟨h1,h2,hO _ _ _ _ h3⟩
theorem Sim.forget_ (h:Sim E g σ a w) (kill:List Nat):Sim E g (Av.forget kill σ) a w:=by
 have h1:=h.scrub_ kill
 refine { h1 with slots:=?_ }
 intro t;show aK (cx E g (Av.scrub kill σ) w) _ (if t∈kill then .any else aS kill (σ.fr t)) _;split
 ·trivial
 ·exact h1.slots t
theorem SS.lt (h:Sim E g σ a w) {b n:Nat} (hs:SS E g w b n):b < w.heap.size:=by
 rcases hs with ⟨h1,_⟩ | ⟨_,h2,_⟩ | ⟨h2,_⟩
 ·exact Nat.lt_of_lt_of_le h1 h.hsize
 ·exact h2
 ·exact h2
theorem Sim.world (h:Sim E g σ a w) (hos:w'.os=w.os) (htape:w'.tape=w.tape) (hout:w'.output=w.output) (hsz:w.heap.size<=w'.heap.size)
  (hb:∀ b,b < w.heap.size->w'.heap[b]?=w.heap[b]?) (hk:∀ b,b < w.heap.size->g'.kd b=g.kd b) (hβ:g'.β=g.β) (hbs:g'.bs=g.bs) (hlam:g'.lam=g.lam):Sim E g' σ a w'/\Cx.le (cx E g σ w) (cx E g' σ w'):=by
 have hS:∀ b o,SS E g w b o->SS E g' w' b o/\w'.cell? ⟨b,o,none⟩=w.cell? ⟨b,o,none⟩:=by
  intro b o hs;have hlt:b < w.heap.size:=SS.lt h hs;refine⟨?_,by simp [World.cell?,hb b hlt]⟩;rcases hs with hs | ⟨h1,h2,h3⟩ | ⟨h2,t,k,h3,h4⟩
  ·exact .inl hs
  ·exact .inr (.inl ⟨h1,by omega,by rw[hk b hlt];exact h3⟩)
  ·exact .inr (.inr ⟨by omega,t,k,by rw[hk b hlt];exact h3,h4⟩)
 have hle:Cx.le (cx E g σ w) (cx E g' σ w'):=⟨hS,Nat.le_refl _,fun i _=>by simp [cx,hβ],fun i _=>by simp [cx,hbs],fun s hs=>⟨hs,by simp [cx,hlam]⟩⟩
 have how:∀ t v z n,c8 g.kd w t v z n->c8 g'.kd w' t v z n:=by
  rintro t v z n ⟨A,c,h1,h2⟩
  refine⟨A,c,h1,?_⟩;rcases h2 with h2 | ⟨b,arr,ty,h3,h4,h5,h6⟩
  ·exact .inl h2
  ·exact .inr ⟨b,arr,ty,h3,(hb b (d7 h4)).trans h4,h5,(hk b (d7 h4)).trans h6⟩
 refine⟨{ h with os:=hos.trans h.os,tape:=htape.trans h.tape,output:=hout.trans h.output,hsize:=Nat.le_trans h.hsize hsz,slots:=?_,shr:=?_,shr0:=?_,shr1:=?_,shrlt:=?_,shrk:=?_,loc:=?_,o0:=?_,own0:=?_,frame:=?_,sframe:=?_ },hle⟩
 ·intro t
  exact aK.mono hle _ _ (fun _ _ _=>how _ _ _ _) (h.slots t)
 ·intro i cells hi hd
  obtain⟨h1,h2⟩:=h.shr i cells hi hd;have hlt:=h.shrlt i (List.getElem?_eq_some_iff.1 hi).1;rw[hβ,hbs];exact⟨(hk _ hlt).trans h1,h2.mono hle (hb _ hlt) (fun j z l v _=>how _ _ _ _)⟩
 ·intro i hi;rw[hβ,hbs];exact h.shr0 i hi
 ·intro i hi hn;rw[hβ];exact h.shr1 i hi hn
 ·intro i hi;rw[hβ];exact Nat.lt_of_lt_of_le (h.shrlt i hi) hsz
 ·intro i hi;rw[hβ,hk _ (h.shrlt i hi)];exact h.shrk i hi
 ·intro s cells hs
  obtain⟨h1,h2,h3⟩:=h.loc s cells hs;rw[hlam];exact⟨(hk _ h3.lt).trans h1,h2,h3.mono hle (hb _ h3.lt) (fun j z l v _ h=>h)⟩
 ·intro b k hk'
  obtain⟨h1,h2,h3⟩:=h.o0 b k hk';refine⟨h1,h2,?_⟩;rw[hk b (Nat.lt_of_lt_of_le h1 h.hsize)];exact h3
 ·intro b t k hkd
  rcases Nat.lt_or_ge b w.heap.size with hlt | hge
  ·rw[hk b hlt] at hkd;exact h.own0 b t k hkd
  ·exact .inl (Nat.le_trans h.hsize hge)
 ·intro b h1 h2 h3
  exact (hb b (Nat.lt_of_lt_of_le h1 h.hsize)).trans (h.frame b h1 h2 h3)
 ·intro b o hs
  have hlt:=Nat.lt_of_lt_of_le (h.s0 b o hs).1 h.hsize;rw[<- h.sframe b o hs];simp [World.cell?,hb b hlt]
theorem Sim.alloc (h:Sim E g σ a w) (o:Obj) (k:BK):Sim E { g with kd:=upd g.kd w.heap.size k } σ a (w.alloc o)/\Cx.le (cx E g σ w) (cx E { g with kd:=upd g.kd w.heap.size k } σ (w.alloc o)):=
 h.world rfl rfl rfl (by simp) (fun b hb=>by show (w.heap.push o)[b]?=_;rw[Array.getElem?_push,if_neg (by omega)])
  (fun b hb=>by simp [upd,Nat.ne_of_lt hb]) rfl rfl rfl
theorem Sim.drawn (h:Sim E g σ a w) (n:Nat):Sim E g σ a { w with drawn:=n }:=
 (h.world (g':=g) (w':={ w with drawn:=n }) rfl rfl rfl (Nat.le_refl _) (fun _ _=>rfl) (fun _ _=>rfl) rfl rfl rfl).1
end
end Go.Av
namespace Go.Av
variable [Gtab]
open Go.RowKit
mutual
def okC:Value->AV->Bool
 | .int k n,.int k' n'=>k == k' && n == n'
 | .bool b,.bool b'=>b == b'
 | .string b,.str s=>b.data.toList == s
 | .slice none 0 0,.sl .full _ []=>true
 | .slice none 0 0,.sl .no _ []=>true
 | .pointer none,.nilp=>true
 | _,_=>false
end
def okL:List Value->List AV->Bool
 | [],[]=>true
 | v :: vs,a :: as=>okC v a && okL vs as
 | _,_=>false
def okV:Value->AV->Bool
 | .agg cs,.agg l=>okL cs.toList l
 | v,a=>okC v a
def WO (i:Nat):Option (List AV):=(Gtab.tab i).map fun p=>p.2.map (AV.int p.1)
def cS (k:IntKind):List AV->List Int->Bool
 | [],[]=>true
 | .int k' n :: l,m :: ms=>k == k' && n == m && cS k l ms
 | _,_=>false
def C0 (i:Nat) (l:List AV):Bool:=match Gtab.tab i with
 | some (k,ns)=>cS k l ns
 | none=>false
theorem rJ {k:IntKind}:∀ {l:List AV} {ns:List Int},cS k l ns=true->l=ns.map (AV.int k)
 | [],[],_=>rfl
 | .int k' n :: l,m :: ms,h=>by
  simp only[cS,Bool.and_eq_true,beq_iff_eq] at h;obtain⟨⟨h1,h2⟩,h3⟩:=h;have h1':k=k':=by simpa using h1
  subst h1' h2;rw[rJ h3];rfl
 | [],_ :: _,h=>by simp [cS] at h
 | .int .. :: _,[],h=>by simp [cS] at h
 | .any :: _,_,h=>by simp [cS] at h
 | .undef :: _,_,h=>by simp [cS] at h
 | .bool _ :: _,_,h=>by simp [cS] at h
 | .str _ :: _,_,h=>by simp [cS] at h
 | .nilp :: _,_,h=>by simp [cS] at h
 | .ptr .. :: _,_,h=>by simp [cS] at h
 | .loc .. :: _,_,h=>by simp [cS] at h
 | .ip _ :: _,_,h=>by simp [cS] at h
 | .sl .. :: _,_,h=>by simp [cS] at h
 | .fn .. :: _,_,h=>by simp [cS] at h
 | .agg _ :: _,_,h=>by simp [cS] at h
 | .tup _ :: _,_,h=>by simp [cS] at h
 | .ss .. :: _,_,h=>by simp [cS] at h
 | .mp _ :: _,_,h=>by simp [cS] at h
 | .mapv _ :: _,_,h=>by simp [cS] at h
 | .aggR _ :: _,_,h=>by simp [cS] at h
def okR:Operand->AR->Bool
 | .global i,.c (.ip l)=>C0 i l
 | .tmp t,.t s=>t == s
 | .const v,.c a=>okV v a
 | .func f,.c (.fn f' [])=>f == f'
 | _,_=>false
def a9:List Operand->List AR->Bool
 | [],[]=>true
 | x :: xs,r :: rs=>okR x r && a9 xs rs
 | _,_=>false
theorem n6 {S:Nat->Nat->Prop} {w:World} {v:Value} {x:AV} (h:okC v x=true):aD S w x v:=by
 unfold okC at h
 split at h
 ·simp at h;simp [aD,h]
 ·simp at h;simp [aD,h]
 ·simp at h;exact⟨_,rfl,h⟩
 ·simp only[aD];exact⟨none,0,rfl,Nat.le_refl _,fun _=>rfl,by simp,.inl trivial⟩
 ·simp only[aD];exact⟨none,0,rfl,Nat.le_refl _,fun _=>rfl,by simp,.inl trivial⟩
 ·simp [aD]
 ·cases h
theorem f9 {S:Nat->Nat->Prop} {w:World}:∀ {vs:List Value} {l:List AV},okL vs l=true->aI (aD S w) l vs
 | [],[],_=>trivial
 | v :: vs,x :: l,h=>by
  simp only[okL,Bool.and_eq_true] at h;exact⟨n6 h.1,f9 h.2⟩
 | [],_ :: _,h=>by simp [okL] at h
 | _ :: _,[],h=>by simp [okL] at h
theorem rB {v:Value} {x:AV} (h:okC v x=true):aH x=x/\(∀ c ow,aD c.S c.w x v->aK c ow x v):=by
 unfold okC at h
 split at h
 ·exact⟨rfl,fun _ _ r=>r⟩
 ·exact⟨rfl,fun _ _ r=>r⟩
 ·exact⟨rfl,fun _ _ r=>r⟩
 ·exact⟨rfl,fun _ _ r=>r⟩
 ·exact⟨rfl,fun _ _ r=>r⟩
 ·exact⟨rfl,fun _ _ r=>r⟩
 ·cases h
theorem xS {c:Cx} {ow:Value->Nat->Nat->Prop} {v:Value} {x:AV} (h:okV v x=true):aK c ow x v:=by
 unfold okV at h
 split at h
 ·exact⟨_,rfl,f9 h⟩
 ·exact (rB h).2 _ _ (n6 h)
section
variable {E:Env} {g g':Gh} {σ:AS} {a:Act} {w w':World}
theorem Sim.tabR (h:Sim E g σ a w) {i:Nat} {l:List AV} (ho:C0 i l=true):cW (SS E g w) w l i 0:=by
 unfold C0 at ho
 split at ho
 ·rename_i k ns hk
  rw[rJ ho];exact cW.mono (fun b o hs=>⟨.inl ⟨(h.s0 b o hs).1,hs⟩,h.sframe b o hs⟩) _ _ _ (h.gl i k ns hk)
 ·cases ho
theorem Sim.ev_ (h:Sim E g σ a w) {x:Operand} {r:AR} (ho:okR x r=true) {ow:Value->Nat->Nat->Prop}:aK (cx E g σ w) ow (aH (ev σ.fr r)) (a.eval x):=by
 unfold okR at ho
 split at ho
 ·exact⟨_,0,rfl,h.tabR ho⟩
 ·simp at ho
  subst ho;exact (h.slots _).dem
 ·exact (xS (ow:=ow) ho).dem
 ·simp at ho
  subst ho;exact⟨#[],rfl,trivial⟩
 ·cases ho
end
def wB (P:Program) (t:TypeId):Bool:=match P.underlying t with | some (.struct _) | some (.array _ _)=>true | _=>false
def dD (P:Program) (t:TypeId) (agg:Bool) (n:Nat):Bool:=
 (P.underlying t).isSome && wB P t == agg && (match P.info? t with | some i=>i.size == n | none=>false)
def eZ (P:Program) (t:TypeId) (l:List AV):Bool:=
 match P.info? t with
 | some i=>(match i.zero with | some z=>okL z.cells.toList l | none=>false) && i.size == l.length
 | none=>false
def uB:List Value->List AV->Bool
 | [],[]=>true
 | _ :: vs,.any :: as=>uB vs as
 | v :: vs,a :: as=>okC v a && uB vs as
 | _,_=>false
def jJ (P:Program) (t:TypeId) (l:List AV):Bool:=
 match P.info? t with
 | some i=>(match i.zero with | some z=>uB z.cells.toList l | none=>false) && i.size == l.length
 | none=>false
def b9 (ao:AOper):Bool:=ao.ml == .none && ao.dem.isNone
def aO (P:Program) (t:TypeId):Option Nat:=(P.info? t).map (·.size)
def jK (P:Program) (t:TypeId):Nat->Option (Nat × Nat):=
 match P.underlying t with
 | some (.array _ e)=>(match P.info? e with | some ie=>fun i=>some (i*ie.size,ie.size) | none=>fun _=>none)
 | some (.struct fields)=>(match fields.toList.mapM (fun f=>(P.info? f.type).map fun i=>(f.offset,i.size)) with | some places=>fun i=>places.toArray[i]? | none=>fun _=>none)
 | _=>fun _=>none
def kG (pl:Nat->Option (Nat × Nat)):List (Nat × Operand)->List (Nat × Nat)->Bool
 | [],[]=>true
 | (i,_) :: ps,q :: qs=>pl i == some q && kG pl ps qs
 | _,_=>false
def WG (x:Operand):Option Operand->List Operand
 | none=>[x]
 | some y=>[x,y]
def fS (P:Program):List Field->Nat->List Nat->Bool
 | [],_,[]=>true
 | f :: fs,n,k :: ks=>f.name != "_" && f.offset == n && (match P.underlying f.type,k with | some (.int _),0=>true | some .bool,1=>true | some .string,2=>true | _,_=>false) && fS P fs (n+1) ks
 | _,_,_=>false
def gQ:Operand->Bool
 | .const (.int _ 0)=>true
 | _=>false
def i7 (P:Program) (t:TypeId):Bool:=match P.underlying t with | some .string=>true | _=>false
def mS (P:Program) (t:TypeId) (k:IntKind):Bool:=match P.underlying t with | some (.int k')=>k == k' | _=>false
def eE (P:Program) (t:TypeId):Bool:=match P.underlying t with | some (.slice e)=>mS P e .u8 | _=>false
def pM (P:Program) (t:TypeId) (kk:List Nat):Bool:=
 match P.underlying t,kk with
 | some (.int _),[0]=>true
 | some .string,[2]=>true
 | _,_=>false
def wQ (P:Program) (t:TypeId) (agg:Bool) (zero:List AV):Bool:=
 match (P.info? t).bind (·.zero) with
 | some (.agg cs)=>agg && okL cs.toList zero
 | some v=>!agg && (match zero with | [x]=>okC v x | _=>false)
 | none=>false
def xU (ao:AOper):Bool:=match ao.args with | [_,.t s]=>ao.dem == some s | [_,.c _]=>ao.dem.isNone | _=>false
def okK (P:Program) (o:Oper) (ao:AOper):Bool:=
 match o.op,ao.k with
 | .move x,.mv | .assign x,.mv=>a9 [x] ao.args && b9 ao
 | .move x,.mvo | .assign x,.mvo=>a9 [x] ao.args && ao.ml == .none && (match ao.args with | [.t s]=>ao.dem == some s | _=>false)
 | .pick c x y,.pick=>a9 [c,x,y] ao.args && b9 ao
 | .alloc e,.alloc zero=>a9 [] ao.args && eZ P e zero && ao.dem.isNone && ao.dst.isSome
 | .alloc e,.allocS zero=>a9 [] ao.args && jJ P e zero && ao.dem.isNone && ao.dst.isSome
 | .box _ x,.box _=>a9 [x] ao.args && ao.dem.isNone && ao.dst.isSome
 | .box _ x,.boxS _=>a9 [x] ao.args && ao.dem.isNone && ao.dst.isSome
 | .build t parts,.build zero pl=>a9 (parts.toList.map (·.2)) ao.args && eZ P t zero && b9 ao && kG (jK P t) parts.toList pl &&
   (match P.underlying t with
    | some (.array _ e)=>(P.info? e).isSome
    | some (.struct fields)=>(fields.toList.mapM (fun f=>(P.info? f.type).map fun i=>(f.offset,i.size))).isSome
    | _=>false)
 | .build t parts,.buildR zero pl=>a9 (parts.toList.map (·.2)) ao.args && jJ P t zero && b9 ao && kG (jK P t) parts.toList pl &&
   (match P.underlying t with
    | some (.array _ e)=>(P.info? e).isSome
    | some (.struct fields)=>(fields.toList.mapM (fun f=>(P.info? f.type).map fun i=>(f.offset,i.size))).isSome
    | _=>false)
 | .buildSlice t len parts,.mks z zero len' pl=>a9 (parts.toList.map (·.2)) ao.args && b9 ao && len == len' && pl == parts.toList.map (·.1) &&
   (match P.underlying t with
    | some (.slice e)=>aO P e == some z && eZ P e zero && decide (len*z<=16777216) && decide (0 < z)
    | _=>false)
 | .load t x,.ld agg n=>a9 [x] ao.args && ao.dem.isNone && dD P t agg n
 | .store t x y,.st n=>a9 [x,y] ao.args && ao.dem.isNone && ao.dst.isNone && aO P t == some n
 | .nilCheck x,.nilc=>a9 [x] ao.args && b9 ao
 | .binOp op _ x y _,.bin op'=>a9 [x,y] ao.args && b9 ao && op == op'
 | .binOp op t x y _,.beq ne=>a9 [x,y] ao.args && b9 ao && (if ne then op == .neq else op == .eql) && (match P.underlying t with | some .bool=>true | _=>false)
 | .binOp op t x y _,.seq ne ks=>a9 [x,y] ao.args && b9 ao && (if ne then op == .neq else op == .eql) && (match P.underlying t with | some (.struct fs)=>!P.stoodInHeld t && !P.eqGuardType P.depth t && fS P fs.toList 0 ks | _=>false)
 | .unOp op _ x,.un op'=>a9 [x] ao.args && b9 ao && op == op'
 | .slice t x lo hi none,.slc str z l h=>a9 (x :: (lo.toList++hi.toList)) ao.args && b9 ao && lo.isSome == l && hi.isSome == h &&
   (match P.underlying t with
    | some (.slice e)=>!str && aO P e == some z
    | some .string=>str
    | _=>false)
 | .fieldAddr s x f,.fa off=>a9 [x] ao.args && b9 ao &&
   (match P.underlying s with
    | some (.struct fs)=>(match fs[f]? with | some f=>f.offset == off && (match aO P f.type with | some n=>n != 0 | none=>false) | none=>false)
    | _=>false)
 | .field t x f,.fld agg off n=>a9 [x] ao.args && b9 ao &&
   (match P.underlying t with
    | some (.struct fs)=>(match fs[f]? with | some f=>f.offset == off && dD P f.type agg n | none=>false)
    | _=>false)
 | .indexAddr t x i,.ia z=>a9 [x,i] ao.args && b9 ao &&
   (match P.underlying t with
    | some (.slice e)=>aO P e == some z
    | _=>false)
 | .indexAddr t x i,.iaA z len=>a9 [x,i] ao.args && b9 ao &&
   (match P.underlying t with
    | some (.array n e)=>n == len && aO P e == some z
    | _=>false)
 | .index t x i,.ixs=>a9 [x,i] ao.args && b9 ao && (match P.underlying t with | some .string=>true | _=>false)
 | .call { callee:=.builtin .len,args:=xs,argTypes:=ts },.len str=>a9 xs.toList ao.args && b9 ao && xs.size == 1 && (match ts[0]? with | some t=>(match P.underlying t with | some .string=>str | some (.slice _)=>!str | _=>false) | none=>false)
 | .call { callee:=.builtin .max,args:=xs,.. },.mm true=>a9 xs.toList ao.args && b9 ao && xs.size == 2
 | .call { callee:=.builtin .min,args:=xs,.. },.mm false=>a9 xs.toList ao.args && b9 ao && xs.size == 2
 | .call { callee:=.builtin .append,args:=xs,argTypes:=ts },.app str z bytes=>a9 xs.toList ao.args && ao.ml == .none && xs.size == 2 &&
   (match ao.args with | .t s :: _=>ao.dem == some s | .c _ :: _=>ao.dem.isNone | _=>false) &&
   (match ts.toList with
    | [t,u]=>(match P.underlying t with
     | some (.slice e)=>(match P.info? e with | some i=>i.size == z && i.bytes == bytes && (match i.zero with | some zv=>zv.cells.size == z | none=>false) | none=>false) &&
       (match P.underlying u with | some .string=>str | some (.slice _)=>!str | _=>false)
     | _=>false)
    | _=>false)
 | .makeFunc (.func f) first caps,.mkf f'=>a9 caps.toList ao.args && b9 ao && f == f' && first.isEmpty
 | .call { callee:=.value (.func f),args:=xs,.. },.call f'=>a9 xs.toList ao.args && ao.dem.isNone && f == f'
 | .call { callee:=.value (.tmp t),args:=xs,.. },.callv=>a9 (.tmp t :: xs.toList) ao.args && ao.dem.isNone
 | .extract x i,.ext i'=>a9 [x] ao.args && b9 ao && i == i'
 | .load t x,.ldo=>a9 [x] ao.args && ao.dem.isNone && dD P t false 1
 | .store t x y,.sto=>a9 [x,y] ao.args && xU ao && ao.dst.isNone && aO P t == some 1
 | .convert src dst x,.cvi k=>a9 [x] ao.args && b9 ao && (P.underlying src).isSome && mS P dst k
 | .convert src dst x,.s2b=>a9 [x] ao.args && ao.dem.isNone && i7 P src && eE P dst
 | .convert src dst x,.b2s=>a9 [x] ao.args && ao.dem.isNone && i7 P dst && eE P src
 | .makeSlice t l c,.mkl z zero bytes=>a9 [l,c] ao.args && ao.dem.isNone &&
   (match P.underlying t with
    | some (.slice e)=>aO P e == some z && eZ P e zero && (match P.info? e with | some i=>i.bytes == bytes | none=>false)
    | _=>false)
 | .call { callee:=.builtin .append,args:=xs,argTypes:=ts },.appS str z bytes=>a9 xs.toList ao.args && ao.dem.isNone && xs.size == 2 &&
   (match ts.toList with
    | [t,u]=>(match P.underlying t with
     | some (.slice e)=>(match P.info? e with | some i=>i.size == z && i.bytes == bytes && (match i.zero with | some zv=>zv.cells.size == z | none=>false) | none=>false) &&
       (match P.underlying u with | some .string=>str | some (.slice _)=>!str | _=>false)
     | _=>false)
    | _=>false)
 | .call { callee:=.builtin .clear,args:=xs,argTypes:=ts },.clr z zero=>a9 xs.toList ao.args && ao.dem.isNone && xs.size == 1 &&
   (match ts.toList with
    | [t]=>(match P.underlying t with
     | some (.slice e)=>eZ P e zero && zero.length == z
     | _=>false)
    | _=>false)
 | .slice t x lo (some hi) (some mx),.slc0 _=>a9 [x] ao.args && b9 ao && lo.isNone && gQ hi && gQ mx &&
   (match P.underlying t with
    | some (.slice e)=>(P.info? e).isSome
    | _=>false)
 | .makeMap _ none,.mkm=>a9 [] ao.args && ao.dem.isNone
 | .lookup t x k ok',.lkp ok agg kk zero=>a9 [x,k] ao.args && ao.dem.isNone && ok' == ok &&
   (match P.underlying t with
    | some (.map key elem)=>pM P key kk && wQ P elem agg zero
    | _=>false)
 | .mapUpdate t m k v,.mup kk=>a9 [m,k,v] ao.args && ao.dem.isNone && ao.dst.isNone &&
   (match P.underlying t with
    | some (.map key _)=>pM P key kk
    | _=>false)
 | .index t x i,.ixA agg z len=>a9 [x,i] ao.args && b9 ao &&
   (match P.underlying t with
    | some (.array n e)=>n == len && dD P e agg z
    | _=>false)
 | .binOp op _ x y _,.shf l=>a9 [x,y] ao.args && b9 ao && (if l then op == .shl else op == .shr)
 | .call { callee:=.value (.func f),args:=xs,.. },.callR f'=>a9 xs.toList ao.args && ao.dem.isNone && f == f'
 | .call { callee:=.value (.tmp t),args:=xs,.. },.callvR=>a9 (.tmp t :: xs.toList) ao.args && ao.dem.isNone
 | .slice t x lo (some hi) none,.slx z l=>a9 (x :: (lo.toList++[hi])) ao.args && ao.dem.isNone && lo.isSome == l &&
   (match P.underlying t with
    | some (.slice e)=>aO P e == some z
    | _=>false)
 | .slice t x (some lo) (some hi) (some mx),.slm=>a9 [x,lo,hi,mx] ao.args && b9 ao &&
   (match P.underlying t with
    | some (.slice e)=>(P.info? e).isSome
    | _=>false)
 | .slice t x (some lo) (some hi) none,.sla len=>a9 [x,lo,hi] ao.args && ao.dem.isNone &&
   (match P.underlying t with
    | some (.array n e)=>n == len && aO P e == some 1
    | _=>false)
 | .call { callee:=.builtin .copy,args:=xs,argTypes:=ts },.cpy z=>a9 xs.toList ao.args && ao.dem.isNone && xs.size == 2 &&
   (match ts.toList with
    | [t,_]=>(match P.underlying t with
     | some (.slice e)=>aO P e == some z
     | _=>false)
    | _=>false)
 | .call { callee:=.builtin .append,args:=xs,argTypes:=ts },.appC z=>a9 xs.toList ao.args && ao.dem.isNone && xs.size == 2 &&
   (match ts.toList with
    | [t,u]=>(match P.underlying t with
     | some (.slice e)=>aO P e == some z && (match P.underlying u with | some (.slice _)=>true | _=>false)
     | _=>false)
    | _=>false)
 | _,_=>false
end Go.Av
