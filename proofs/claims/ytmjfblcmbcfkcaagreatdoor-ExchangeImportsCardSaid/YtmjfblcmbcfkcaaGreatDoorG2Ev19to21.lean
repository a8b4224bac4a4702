/- A part of the frame (Ev19 Ev20 Ev21). No conditions. -/
import Derived.Test.YtmjfblcmbcfkcaaGreatDoorG2Ev14to18
import Derived.Attr
import Derived.IntWalk
import Derived.WalkKit
import Derived.ProofKit
import Derived.OpenShut
import Derived.Below
import Derived.Carry
import Derived.Lib.SmallJoins
open List
set_option linter.unusedSimpArgs false
set_option linter.unusedVariables false
set_option linter.unusedSectionVars false
set_option maxRecDepth 100000
set_option maxHeartbeats 16000000
namespace Go.Av
section
variable {G:aO} {l:List (Nat × AV)} {m:List (Nat × Option (List AV))} {sh:LL}
@[go_sem] theorem zDL {α:Type} (d:α) (t:Nat):aE d [] t=d:=(rfl)
@[go_sem] theorem zAA {α:Type} (d:α) (k:Nat) (v:α) (r:List (Nat × α)) (t:Nat):aE d ((k,v) :: r) t=if t=k then v else aE d r t:=(rfl)
@[go_sem] theorem zBW {α:Type} (k:Nat) (v:α):eX [] k v=[(k,v)]:=(rfl)
@[go_sem] theorem ZI {α:Type} (k k':Nat) (v v':α) (r:List (Nat × α)):eX ((k',v') :: r) k v=if k=k' then (k,v) :: r else if k < k' then (k,v) :: (k',v') :: r else (k',v') :: eX r k v:=(rfl)
@[go_sem] theorem zAD (kill:List Nat):j6 kill []=[]:=(rfl)
@[go_sem] theorem XB (kill:List Nat) (k:Nat) (v:AV) (r:List (Nat × AV)):j6 kill ((k,v) :: r)=if k∈kill then j6 kill r else (k,b9 kill v) :: j6 kill r:=(rfl)
@[go_sem] theorem zAM {α:Type} (kill:List Nat):i8 kill ([]:List (Nat × α))=[]:=(rfl)
@[go_sem] theorem YB {α:Type} (kill:List Nat) (k:Nat) (v:α) (r:List (Nat × α)):i8 kill ((k,v) :: r)=if k∈kill then i8 kill r else (k,v) :: i8 kill r:=(rfl)
@[go_sem] theorem zBZ (kill:List Nat):AM kill []=[]:=(rfl)
@[go_sem] theorem ZO (kill:List Nat) (k:Nat) (v:AV) (r:List (Nat × AV)):AM kill ((k,v) :: r)=(k,b9 kill v) :: AM kill r:=(rfl)
@[go_sem] theorem zFU (k:Nat):u9 k []=[]:=(rfl)
@[go_sem] theorem zAV (k:Nat) (a:AV) (as:List AV):u9 k (a :: as)=(k,a) :: u9 (k+1) as:=(rfl)
attribute [go_sem] reduceCtorEq Nat.not_lt_zero Nat.lt_one_iff mem_cons not_mem_nil or_false or_true or_self false_or true_or if_true if_false
@[go_sem] theorem zFB (k:IntKind) (n:Int):aI (.int k n)=.int k n:=(rfl)
@[go_sem] theorem zAO (b:Bool):aI (.bool b)=.bool b:=(rfl)
@[go_sem] theorem zEZ (s:List UInt8):aI (.str s)=.str s:=(rfl)
@[go_sem] theorem zAN:aI .nilp=.nilp:=(rfl)
@[go_sem] theorem zFA (o i:Nat):aI (.ptr o i)=.ptr o i:=(rfl)
@[go_sem] theorem zFC (x:List AV):aI (.agg x)=.agg x:=(rfl)
@[go_sem] theorem zEY (x:List AV):aI (.tup x)=.tup x:=(rfl)
@[go_sem] theorem zIC (o i n z:Nat):aI (.ss o i n z)=.ss o i n z:=(rfl)
@[go_sem] theorem zID (o:Nat):aI (.mp o)=.mp o:=(rfl)
@[go_sem] theorem zBQ (k:IntKind) (n:Int):fE (.int k n)=.int k n:=(rfl)
@[go_sem] theorem ZF (b:Bool):fE (.bool b)=.bool b:=(rfl)
@[go_sem] theorem zBP (s:List UInt8):fE (.str s)=.str s:=(rfl)
@[go_sem] theorem zBR (x:List AV):fE (.agg x)=.agg x:=(rfl)
@[go_sem] theorem zGI (o i n z:Nat):fE (.ss o i n z)=.ss o i n z:=(rfl)
@[go_sem] theorem AG (o:Own) (z:Nat) (x:LL):fE (.sl o z x)=.sl .no z x:=(rfl)
@[go_sem] theorem SR (n:Nat) (x:List AV):cF n (.agg x)=if x.length=n then some x else none:=(rfl)
@[go_sem] theorem SQ (k:IntKind) (i:Int):cF 1 (.int k i)=some [.int k i]:=(rfl)
@[go_sem] theorem SN (s:List UInt8):cF 1 (.str s)=some [.str s]:=(rfl)
@[go_sem] theorem SO (z:Nat) (x:LL):cF 1 (.sl .no z x)=some [.sl .no z x]:=(rfl)
@[go_sem] theorem SP (z:Nat) (a:List AV) (x:LL):cF 1 (.sl .full z (a :: x))=some [.sl .no z (a :: x)]:=(rfl)
@[go_sem] theorem SW (n:Nat) (x:List AV):dM n (.agg x)=if x.length=n then some x else none:=(rfl)
@[go_sem] theorem SV (k:IntKind) (i:Int):dM 1 (.int k i)=some [.int k i]:=(rfl)
@[go_sem] theorem SU (s:List UInt8):dM 1 (.str s)=some [.str s]:=(rfl)
@[go_sem] theorem UW (o:Own) (z:Nat) (x:LL):dM 1 (.sl o z x)=some [.sl .no z x]:=(rfl)
@[go_sem] theorem OX (n:Nat) (x:List AV):dM n (.aggR x)=if x.length=n/\x.all frB=true then some x else none:=(rfl)
@[go_sem] theorem zAX:List.all [] frB=true:=(rfl)
@[go_sem] theorem Y0 (x:AV) (y:List AV):List.all (x :: y) frB=(frB x && List.all y frB):=(rfl)
@[go_sem] theorem zHT (k:IntKind) (i:Int):frB (.int k i)=true:=(rfl)
@[go_sem] theorem zEM (z:Nat) (x:LL):frB (.sl .full z x)=true:=(rfl)
@[go_sem] theorem zJZ (o:Nat):frB (.mp o)=true:=(rfl)
@[go_sem] theorem UX (a:Nat):dM 1 (.mp a)=some [.mp a]:=(rfl)
@[go_sem] theorem V1 (a:List Nat) (k:IntKind) (n:Int):b9 a (.int k n)=.int k n:=(rfl)
@[go_sem] theorem T2 (a:List Nat) (b:Bool):b9 a (.bool b)=.bool b:=(rfl)
@[go_sem] theorem VY (a:List Nat) (s:List UInt8):b9 a (.str s)=.str s:=(rfl)
@[go_sem] theorem VZ (a:List Nat) (o i:Nat):b9 a (.ptr o i)=.ptr o i:=(rfl)
@[go_sem] theorem V0 (a:List Nat) (o i:Nat):b9 a (.loc o i)=if o∈a then .any else .loc o i:=(rfl)
@[go_sem] theorem V2 (a:List Nat) (x:List AV):b9 a (.agg x)=.agg x:=(rfl)
@[go_sem] theorem ZL (a:List Nat) (o i n z:Nat):b9 a (.ss o i n z)=.ss o i n z:=(rfl)
@[go_sem] theorem ZN (a:List Nat) (o:Nat):b9 a (.mp o)=.mp o:=(rfl)
@[go_sem] theorem ZM (a:List Nat) (o:Own) (z:Nat) (x:LL):b9 a (.sl o z x)=.sl o z x:=(rfl)
noncomputable def B7 (G:aO) (r:Option (AX × AS)) (b:ACode):Option (AX × AS):=match r with
 | some (.norm,σ')=>aC G b σ'
 | r=>r
def oY (id:Nat) (r:Option (AX × AS)):Option (AX × AS):=match r with
 | some (.ex i,σ')=>if i=id then some (.norm,σ') else some (.ex i,σ')
 | r=>r
def EM (kill:List Nat) (r:Option AS):Option (AX × AS):=r.map fun σ'=>(.norm,forget kill σ')
def JD (G:aO) (r:Option AS) (os:List AOper):Option AS:=r.bind (dC G os)
noncomputable def UV (G:aO) (v:AV) (a b:ACode) (σ:AS):Option (AX × AS):=match v with
 | .bool t=>if t then aC G a σ else aC G b σ
 | _=>none
@[go_sem] theorem zKU (σ:AS):aC G .skip σ=some (.norm,σ):=(rfl)
@[go_sem] theorem zLO (σ:AS):aC G .ret σ=some (.ret,σ):=(rfl)
@[go_sem] theorem zKX (id:Nat) (σ:AS):aC G (.exit id) σ=some (.ex id,σ):=(rfl)
@[go_sem] theorem zLN (a b:ACode) (σ:AS):aC G (.seq a b) σ=B7 G (aC G a σ) b:=(rfl)
@[go_sem] theorem zIX (id:Nat) (a:ACode) (σ:AS):aC G (.block id a) σ=oY id (aC G a σ):=(rfl)
@[go_sem] theorem zKW (d:Bool) (ops:List AOper) (kill:List Nat) (σ:AS):aC G (.reg d [] ops kill) σ=EM kill (dC G ops σ):=by
 show (dC G ops (scrub [] σ)).map _=_;rw[I9];rfl
@[go_sem] theorem zKV (d:Bool) (a:Nat) (al:List Nat) (ops:List AOper) (kill:List Nat):aC G (.reg d (a :: al) ops kill) (ST l m sh)=EM kill (dC G ops (ST (AM (a :: al) l) (i8 (a :: al) m) sh)):=by
 show (dC G ops (scrub (a :: al) _)).map _=_;rw[LE];rfl
@[go_sem] theorem zKY (c:AR) (a b:ACode):aC G (.cond c a b) (ST l m sh)=UV G (ev (aE .any l) c) a b (ST l m sh):=(rfl)
@[go_sem] theorem YJ (t:Bool) (a b:ACode) (σ:AS):UV G (.bool t) a b σ=if t then aC G a σ else aC G b σ:=(rfl)
@[go_sem] theorem ZJ (σ:AS) (b:ACode):B7 G (some (.norm,σ)) b=aC G b σ:=(rfl)
@[go_sem] theorem zGN (i:Nat) (σ:AS) (b:ACode):B7 G (some (.ex i,σ)) b=some (.ex i,σ):=(rfl)
@[go_sem] theorem zBX (σ:AS) (b:ACode):B7 G (some (.ret,σ)) b=some (.ret,σ):=(rfl)
@[go_sem] theorem ZK (b:ACode):B7 G none b=none:=(rfl)
@[go_sem] theorem zBY (c:Prop) [Decidable c] (x y:Option (AX × AS)) (b:ACode):B7 G (if c then x else y) b=if c then B7 G x b else B7 G y b:=by split<;>rfl
@[go_sem] theorem U0 (id:Nat) (σ:AS):oY id (some (.norm,σ))=some (.norm,σ):=(rfl)
@[go_sem] theorem YV (id:Nat) (σ:AS):oY id (some (.ret,σ))=some (.ret,σ):=(rfl)
@[go_sem] theorem zAU (id i:Nat) (σ:AS):oY id (some (.ex i,σ))=if i=id then some (.norm,σ) else some (.ex i,σ):=(rfl)
@[go_sem] theorem U1 (id:Nat):oY id none=none:=(rfl)
@[go_sem] theorem YW (id:Nat) (c:Prop) [Decidable c] (x y:Option (AX × AS)):oY id (if c then x else y)=if c then oY id x else oY id y:=by split<;>rfl
@[go_sem] theorem Z1 (kill:List Nat):EM kill (some (ST l m sh))=some (.norm,ST (j6 kill l) (i8 kill m) sh):=by
 show some (AX.norm,forget kill (ST l m sh))=_;rw[t8]
@[go_sem] theorem Z2 (kill:List Nat):EM kill none=none:=(rfl)
@[go_sem] theorem zCI (kill:List Nat) (c:Prop) [Decidable c] (x y:Option AS):EM kill (if c then x else y)=if c then EM kill x else EM kill y:=by split<;>rfl
@[go_sem] theorem zCB (σ:AS):dC G [] σ=some σ:=(rfl)
@[go_sem] theorem ZR (o:AOper) (os:List AOper) (σ:AS):dC G (o :: os) σ=JD G (cI G o σ) os:=(rfl)
@[go_sem] theorem ZP (σ:AS) (os:List AOper):JD G (some σ) os=dC G os σ:=(rfl)
@[go_sem] theorem ZQ (os:List AOper):JD G none os=none:=(rfl)
@[go_sem] theorem zCA (c:Prop) [Decidable c] (x y:Option AS) (os:List AOper):JD G (if c then x else y) os=if c then JD G x os else JD G y os:=by split<;>rfl
noncomputable def zDK (G:aO) (kill:List Nat) (a:ACode) (r:Option (AX × AS)):Option (AX × AS):=match r with
 | some (.norm,σ')=>aC G (.loop kill a) σ'
 | r=>r
theorem Y1 (kill:List Nat) (a:ACode):aC G (.loop kill a) (ST l m sh)=zDK G kill a (aC G a (ST (j6 kill l) (i8 kill m) sh)):=by
 rw[<- t8];show xF _ _=_;rw[@xE KT];rfl
def opX (G:aO) (dst:Option Nat) (k:AK) (args:List AR) (ml:ML) (dem:Option Nat) (σ:AS):Option AS:=
 match kf G (dst.getD 0) ml k (args.map (ev σ.fr)) (rdm σ ml) with
 | some (v,m)=>some (put (dI (wrm σ m ml) dem) dst v)
 | none=>none
def A7 (G:aO) (g:AV) (want:Bool) (dst:Option Nat) (k:AK) (args:List AR) (ml:ML) (dem:Option Nat) (σ:AS):Option AS:=
 match g with
 | .bool b=>if b=want then opX G dst k args ml dem σ else some (put σ dst .undef)
 | .undef=>some (put σ dst .undef)
 | _=>none
@[go_sem] theorem VP (dst:Option Nat) (k:AK) (args:List AR) (ml:ML) (dem:Option Nat) (σ:AS):cI G ⟨dst,k,args,ml,dem,none⟩ σ=opX G dst k args ml dem σ:=(rfl)
@[go_sem] theorem VQ (dst:Option Nat) (k:AK) (args:List AR) (ml:ML) (dem:Option Nat) (s:Nat) (b:Bool):cI G ⟨dst,k,args,ml,dem,some (s,b)⟩ (ST l m sh)=A7 G (aE .any l s) b dst k args ml dem (ST l m sh):=by
 unfold cI A7;simp only[fC,U7]
 cases aE AV.any l s with
 | bool c=>cases c<;>cases b<;>rfl
 | _=>rfl
@[go_sem] theorem UQ (c want:Bool) (dst:Option Nat) (k:AK) (args:List AR) (ml:ML) (dem:Option Nat) (σ:AS):A7 G (.bool c) want dst k args ml dem σ=if c=want then opX G dst k args ml dem σ else some (put σ dst .undef):=(rfl)
@[go_sem] theorem R0 (want:Bool) (dst:Option Nat) (k:AK) (args:List AR) (ml:ML) (dem:Option Nat) (σ:AS):A7 G .undef want dst k args ml dem σ=some (put σ dst .undef):=(rfl)
attribute [go_sem] iB LT
@[go_sem] theorem ev_t (f:Nat->AV) (s:Nat):ev f (.t s)=f s:=(rfl)
@[go_sem] theorem ev_c (f:Nat->AV) (a:AV):ev f (.c a)=a:=(rfl)
@[go_sem] theorem zLC (d:Nat) (x:AR):opX G (some d) .mv [x] .none none (ST l m sh)=some (ST (eX l d (aI (ev (aE .any l) x))) m sh):=by
 show some (put (ST l m sh) (some d) _)=_;rw[iB];rfl
@[go_sem] theorem zJD (d s:Nat):opX G (some d) .mvo [.t s] .none (some s) (ST l m sh)=some (ST (eX (eX l s (aI (aE .any l s))) d (aE .any l s)) m sh):=by
 show some (put (dI (ST l m sh) (some s)) (some d) _)=_;rw[BH,iB];rfl
def fR (d:Nat) (l:List (Nat × AV)) (m:List (Nat × Option (List AV))) (sh:LL) (v:Option AV):Option AS:=v.map fun v=>ST (eX l d v) m sh
@[go_sem] theorem ZY (d:Nat) (v:AV):fR d l m sh (some v)=some (ST (eX l d v) m sh):=(rfl)
@[go_sem] theorem ZZ (d:Nat):fR d l m sh none=none:=(rfl)
@[go_sem] theorem zCH (d:Nat) (c:Prop) [Decidable c] (x y:Option AV):fR d l m sh (if c then x else y)=if c then fR d l m sh x else fR d l m sh y:=by split<;>rfl
theorem cZ {d:Nat} {k:AK} {args:List AR} {r:Option AV} (h:kf G d .none k (args.map (ev (aE .any l))) (none,[])=r.map fun v=>(v,(none,[]))):opX G (some d) k args .none none (ST l m sh)=fR d l m sh r:=by
 unfold opX;have h':kf G ((some d).getD 0) .none k (args.map (ev (ST l m sh).fr)) (rdm (ST l m sh) .none)=r.map fun v=>(v,(none,[])):=h
 rw[h']
 cases r with
 | none=>rfl
 | some v =>
  show some (put (ST l m sh) (some d) v)=_;rw[iB];rfl
def UA:AV->AV->AV->Option AV
 | .bool c,a,b=>some (aI (if c then a else b))
 | _,_,_=>none
@[go_sem] theorem V9 (c:Bool) (a b:AV):UA (.bool c) a b=some (if c then aI a else aI b):=by cases c<;>rfl
@[go_sem] theorem zGW (d:Nat) (c x y:AR):opX G (some d) .pick [c,x,y] .none none (ST l m sh)=fR d l m sh (UA (ev (aE .any l) c) (ev (aE .any l) x) (ev (aE .any l) y)):=by
 apply cZ;simp only[map_cons,map_nil,kf]
 cases ev (aE AV.any l) c<;>rfl
@[go_sem] theorem zJR (d:Nat) (op:BinOp) (x y:AR):opX G (some d) (.bin op) [x,y] .none none (ST l m sh)=fR d l m sh (eU op (ev (aE .any l) x) (ev (aE .any l) y)):=by
 apply cZ;simp only[map_cons,map_nil,kf,kf0]
def beqA (ne:Bool):AV->AV->Option AV
 | .bool x,.bool y=>some (.bool (if ne then x != y else x == y))
 | _,_=>none
def unA:UnOp->AV->Option AV
 | .neg,.int k n=>some (.int k (k.wrap (0 - n)))
 | .not,.bool b=>some (.bool !b)
 | _,_=>none
def VX (ne:Bool) (ks:List Nat):AV->AV->Option AV
 | .agg x,.agg y=>(eqL ks x y).map fun b=>.bool (if ne then !b else b)
 | _,_=>none
@[go_sem] theorem zGO (ks:List Nat) (x y:List AV):VX true ks (.agg x) (.agg y)=(eqL ks x y).map fun b=>.bool !b:=(rfl)
@[go_sem] theorem zHX:eqL [] [] []=some true:=(rfl)
@[go_sem] theorem zHY (ks:List Nat) (k:IntKind) (a b:Int) (x y:List AV):eqL (0 :: ks) (.int k a :: x) (.int k b :: y)=(eqL ks x y).map fun r=>decide (a=b) && r:=by
 simp only[eqL,if_true];rfl
@[go_sem] theorem zHW (ks:List Nat) (a b:List UInt8) (x y:List AV):eqL (2 :: ks) (.str a :: x) (.str b :: y)=(eqL ks x y).map fun r=>(a == b) && r:=(rfl)
@[go_sem] theorem zJC (d:Nat) (ne:Bool) (ks:List Nat) (x y:AR):opX G (some d) (.seq ne ks) [x,y] .none none (ST l m sh)=fR d l m sh (VX ne ks (ev (aE .any l) x) (ev (aE .any l) y)):=by
 apply cZ;simp only[map_cons,map_nil,kf];cases hx:ev (aE AV.any l) x<;>cases hy:ev (aE AV.any l) y<;>try rfl
 simp only[kf0,VX,Option.map_map];rfl
@[go_sem] theorem zGH (b:Bool):unA .not (.bool b)=some (.bool !b):=(rfl)
@[go_sem] theorem zLA (d:Nat) (op:UnOp) (x:AR):opX G (some d) (.un op) [x] .none none (ST l m sh)=fR d l m sh (unA op (ev (aE .any l) x)):=by
 apply cZ;simp only[map_cons,map_nil,kf]
 cases op<;>cases ev (aE AV.any l) x<;>rfl
def lenA:AV->Option AV
 | .sl _ _ x=>some (.int .i64 (x.length:Int))
 | .str s=>some (.int .i64 (s.length:Int))
 | _=>none
def C1 (str:Bool) (v:AV):Option AV:=match str,v with
 | false,.sl _ _ x=>some (.int .i64 (x.length:Int))
 | false,.ss _ _ n _=>some (.int .i64 (n:Int))
 | true,.str s=>some (.int .i64 (s.length:Int))
 | _,_=>none
@[go_sem] theorem zDS (o i n z:Nat):C1 false (.ss o i n z)=some (.int .i64 (n:Int)):=(rfl)
@[go_sem] theorem zDT (o:Own) (z:Nat) (x:LL):C1 false (.sl o z x)=some (.int .i64 (x.length:Int)):=(rfl)
@[go_sem] theorem zAB (s:List UInt8):C1 true (.str s)=some (.int .i64 (s.length:Int)):=(rfl)
@[go_sem] theorem zJJ (d:Nat) (b:Bool) (x:AR):opX G (some d) (.len b) [x] .none none (ST l m sh)=fR d l m sh (C1 b (ev (aE .any l) x)):=by
 apply cZ;simp only[map_cons,map_nil,kf]
 cases b<;>cases ev (aE AV.any l) x<;>rfl
def mmA (b:Bool):AV->AV->Option AV
 | .int k x,.int k' y=>if k=k' then some (.int k (if b then (if x < y then y else x) else (if y < x then y else x))) else none
 | _,_=>none
@[go_sem] theorem zHF (k:IntKind) (x y:Int):mmA true (.int k x) (.int k y)=some (.int k (max x y)):=by
 simp only[mmA,if_true,Option.some.injEq,AV.int.injEq,true_and];split<;>omega
@[go_sem] theorem zHE (k:IntKind) (x y:Int):mmA false (.int k x) (.int k y)=some (.int k (min x y)):=by
 simp only[mmA,if_true,Bool.false_eq_true,if_false,Option.some.injEq,AV.int.injEq,true_and];split<;>omega
@[go_sem] theorem zLD (d:Nat) (b:Bool) (x y:AR):opX G (some d) (.mm b) [x,y] .none none (ST l m sh)=fR d l m sh (mmA b (ev (aE .any l) x) (ev (aE .any l) y)):=by
 apply cZ;simp only[map_cons,map_nil,kf];cases hx:ev (aE AV.any l) x<;>cases hy:ev (aE AV.any l) y<;>try rfl
 rename_i k n k' n';simp only[kf0,mmA]
 split<;>rfl
def UF:AV->Option AV
 | .ptr a b=>some (.ptr a b)
 | .loc a b=>some (.loc a b)
 | .ip x=>some (.ip x)
 | _=>none
@[go_sem] theorem Z7 (a b:Nat):UF (.ptr a b)=some (.ptr a b):=(rfl)
@[go_sem] theorem zGX (d:Nat) (x:AR):opX G (some d) .nilc [x] .none none (ST l m sh)=fR d l m sh (UF (ev (aE .any l) x)):=by
 apply cZ;simp only[map_cons,map_nil,kf]
 cases ev (aE AV.any l) x<;>rfl
def faA (off:Nat):AV->Option AV
 | .loc s o=>some (.loc s (o+off))
 | .ptr i o=>some (.ptr i (o+off))
 | .ip x=>some (.ip (x.drop off))
 | _=>none
@[go_sem] theorem zHV (off s o:Nat):faA off (.loc s o)=some (.loc s (o+off)):=(rfl)
@[go_sem] theorem zHU (off s o:Nat):faA off (.ptr s o)=some (.ptr s (o+off)):=(rfl)
@[go_sem] theorem zKA (off:Nat) (x:List AV):faA off (.ip x)=some (.ip (x.drop off)):=(rfl)
@[go_sem] theorem zLG (d off:Nat) (x:AR):opX G (some d) (.fa off) [x] .none none (ST l m sh)=fR d l m sh (faA off (ev (aE .any l) x)):=by
 apply cZ;simp only[map_cons,map_nil,kf]
 cases ev (aE AV.any l) x<;>rfl
def fldA (agg:Bool) (off n:Nat):AV->Option AV
 | .agg x=>gI agg off n x
 | _=>none
def iaK (z:Nat):AV->AV->Option AV
 | .sl _ z' x,.int _ i=>if z'=z/\0<=i then (x[i.toNat]?).map .ip else none
 | .ss o off n z',.int _ i=>if z'=z/\0<=i/\i < n then some (.ptr o (off+i.toNat*z)) else none
 | _,_=>none
@[go_sem] theorem zJX (z o off n:Nat) (k:IntKind) (i:Int):iaK z (.ss o off n z) (.int k i)=if 0<=i/\i < n then some (.ptr o (off+i.toNat*z)) else none:=by simp [iaK]
@[go_sem] theorem zJY (z:Nat) (o:Own) (x:LL) (k:IntKind) (i:Int):iaK z (.sl o z x) (.int k i)=if 0<=i then (x[i.toNat]?).map .ip else none:=by simp [iaK]
@[go_sem] theorem zLF (d z:Nat) (x y:AR):opX G (some d) (.ia z) [x,y] .none none (ST l m sh)=fR d l m sh (iaK z (ev (aE .any l) x) (ev (aE .any l) y)):=by
 apply cZ;simp only[map_cons,map_nil,kf];cases hx:ev (aE AV.any l) x<;>cases hy:ev (aE AV.any l) y<;>try rfl
 all_goals
  simp only[kf0,iaK];split
  ·first | rfl | (simp only[Option.map_map];rfl)
  ·rfl
def XS (z len:Nat):AV->AV->Option AV
 | a,.int _ i=>if 0<=i/\i < len then
   (match a with
   | .loc s o=>some (.loc s (o+i.toNat*z))
   | .ptr p o=>some (.ptr p (o+i.toNat*z))
   | .ip x=>some (.ip (x.drop (i.toNat*z)))
   | _=>none) else none
 | _,_=>none
@[go_sem] theorem zHQ (z len:Nat) (x:List AV) (k:IntKind) (i:Int):XS z len (.ip x) (.int k i)=if 0<=i/\i < len then some (.ip (x.drop (i.toNat*z))) else none:=(rfl)
@[go_sem] theorem zJN (d z len:Nat) (x y:AR):opX G (some d) (.iaA z len) [x,y] .none none (ST l m sh)=fR d l m sh (XS z len (ev (aE .any l) x) (ev (aE .any l) y)):=by
 apply cZ;simp only[map_cons,map_nil,kf];cases hx:ev (aE AV.any l) x<;>cases hy:ev (aE AV.any l) y<;>try rfl
 all_goals
  simp only[kf0,XS]
  split<;>rfl
def XM:AV->AV->Option AV
 | .str s,.int _ i=>if 0<=i then (s[i.toNat]?).map fun b=>.int .u8 (b.toNat:Int) else none
 | _,_=>none
@[go_sem] theorem zEE (s:List UInt8) (k:IntKind) (i:Int):XM (.str s) (.int k i)=if 0<=i then (s[i.toNat]?).map fun b=>.int .u8 (b.toNat:Int) else none:=(rfl)
@[go_sem] theorem zJL (d:Nat) (x y:AR):opX G (some d) .ixs [x,y] .none none (ST l m sh)=fR d l m sh (XM (ev (aE .any l) x) (ev (aE .any l) y)):=by
 apply cZ;simp only[map_cons,map_nil,kf];cases hx:ev (aE AV.any l) x<;>cases hy:ev (aE AV.any l) y<;>try rfl
 simp only[kf0,XM];split
 ·simp only[Option.map_map];rfl
 ·rfl
@[go_sem] theorem zGV (d:Nat) (str:Bool) (z:Nat) (x y:AR):opX G (some d) (.slc str z true false) [x,y] .none none (ST l m sh)=fR d l m sh (bO str z (ev (aE .any l) x) (some (ev (aE .any l) y)) none):=by
 apply cZ;simp only[map_cons,map_nil,kf,kf0]
@[go_sem] theorem zGU (d:Nat) (str:Bool) (z:Nat) (x y:AR):opX G (some d) (.slc str z false true) [x,y] .none none (ST l m sh)=fR d l m sh (bO str z (ev (aE .any l) x) none (some (ev (aE .any l) y))):=by
 apply cZ;simp only[map_cons,map_nil,kf,kf0]
@[go_sem] theorem zGT (d:Nat) (str:Bool) (z:Nat) (x y w:AR):opX G (some d) (.slc str z true true) [x,y,w] .none none (ST l m sh)=fR d l m sh (bO str z (ev (aE .any l) x) (some (ev (aE .any l) y)) (some (ev (aE .any l) w))):=by
 apply cZ;simp only[map_cons,map_nil,kf,kf0]
@[go_sem] theorem zCZ (d:Nat) (zero:List AV) (pl:List (Nat × Nat)) (args:List AR):opX G (some d) (.build zero pl) args .none none (ST l m sh)=fR d l m sh ((fX zero pl (args.map (ev (aE .any l)))).map .agg):=by
 apply cZ;simp only[kf,kf0,Option.map_map];rfl
@[go_sem] theorem Z4 (d:Nat) (zero:List AV) (pl:List (Nat × Nat)) (args:List AR):opX G (some d) (.buildR zero pl) args .none none (ST l m sh)=fR d l m sh ((nN zero pl (args.map (ev (aE .any l)))).map .aggR):=by
 apply cZ;simp only[kf,kf0,Option.map_map];rfl
def iE (z:Nat) (zero:List AV) (len:Nat) (pl:List Nat) (xs:List AV):Option AV:=
 (fX (b8 zero len) (pl.map fun i=>(i*z,z)) xs).map fun cs=>.sl .full z (dV z len cs)
@[go_sem] theorem zJF (d z:Nat) (zero:List AV) (len:Nat) (pl:List Nat) (args:List AR):opX G (some d) (.mks z zero len pl) args .none none (ST l m sh)=fR d l m sh (iE z zero len pl (args.map (ev (aE .any l)))):=by
 apply cZ;simp only[kf,kf0,iE,Option.map_map];rfl
def jL (str:Bool) (z bytes:Nat):AV->AV->Option AV
 | .sl md z' x,y=>(jW str z y).bind fun l2=>if (z'=z\/(x=[]/\md=.full))/\md≠.no/\0 < z/\(x.length+l2.length)*bytes<=140737488355328/\x.length+l2.length<=4611686018427387904 then some (.sl .own z (x++l2)) else none
 | _,_=>none
theorem OF (d:Nat) (str:Bool) (z bytes:Nat) (u v:AV):kf G d .none (.app str z bytes) [u,v] (none,[])=(jL str z bytes u v).map fun v=>(v,(none,[])):=by
 simp only[kf]
 cases u<;>try rfl
 simp only[kf0,jL]
 cases jW str z v with
 | none=>rfl
 | some l2 =>
  simp only[Option.bind_some]
  split<;>rfl
@[go_sem] theorem zJT (d s:Nat) (str:Bool) (z bytes:Nat) (y:AR):opX G (some d) (.app str z bytes) [.t s,y] .none (some s) (ST l m sh)=fR d (eX l s (aI (aE .any l s))) m sh (jL str z bytes (aE .any l s) (ev (aE .any l) y)):=by
 unfold opX;have h':kf G ((some d).getD 0) .none (.app str z bytes) ([AR.t s,y].map (ev (ST l m sh).fr)) (rdm (ST l m sh) .none)=(jL str z bytes (aE .any l s) (ev (aE .any l) y)).map fun v=>(v,(none,[])):=OF d str z bytes _ _
 rw[h']
 cases jL str z bytes (aE .any l s) (ev (aE .any l) y) with
 | none=>rfl
 | some v =>
  show some (put (dI (ST l m sh) (some s)) (some d) v)=_;rw[BH,iB];rfl
@[go_sem] theorem zHA (d:Nat) (str:Bool) (z bytes:Nat) (a:AV) (y:AR):opX G (some d) (.app str z bytes) [.c a,y] .none none (ST l m sh)=fR d l m sh (jL str z bytes a (ev (aE .any l) y)):=
 cZ (OF d str z bytes _ _)
def extA (i:Nat):AV->Option AV
 | .tup x=>x[i]?
 | _=>none
@[go_sem] theorem zER (i:Nat) (x:List AV):extA i (.tup x)=x[i]?:=(rfl)
@[go_sem] theorem zJO (d i:Nat) (x:AR):opX G (some d) (.ext i) [x] .none none (ST l m sh)=fR d l m sh (extA i (ev (aE .any l) x)):=by
 apply cZ;simp only[map_cons,map_nil,kf]
 cases ev (aE AV.any l) x<;>rfl
def mkfA (f:FuncId) (caps:List AV):Option AV:=if caps.all (FI true) then some (.fn f caps) else none
@[go_sem] theorem TW (off:Nat) (x:List AV):gI false off 1 x=x[off]?:=by
 unfold gI;simp only[Bool.false_eq_true,if_false];cases h:x.drop off with
 | nil =>
  have:x[off]?=none:=by
   rw[getElem?_eq_none]
   have:=congrArg List.length h
   simp at this;omega
  rw[this];rfl
 | cons a r =>
  have:x[off]?=some a:=by
   have h2:(x.drop off)[0]?=some a:=by rw[h];rfl
   rw[getElem?_drop] at h2;simpa using h2
  rw[this];rfl
@[go_sem] theorem VO (off n:Nat) (x:List AV):gI true off n x=if ((x.drop off).take n).length=n then some (.agg ((x.drop off).take n)) else none:=(rfl)
attribute [go_sem] getElem?_cons_zero getElem?_cons_succ drop_zero drop_succ_cons take_succ_cons take_zero
@[go_sem] theorem zDA (d:Nat) (zero:List AV):opX G (some d) (.alloc zero) [] (.lo d) none (ST l m sh)=if (aE none m d).isNone then some (ST (eX l d (.loc d 0)) (eX m d (some zero)) sh) else none:=by
 unfold opX;simp only[map_nil,kf,kf0,EN,Option.getD_some,true_and];by_cases h:(aE none m d).isNone=true
 ·rw[if_pos h,if_pos h]
  show some (put (dI (wrm (ST l m sh) _ _) none) (some d) _)=_;rw[D6,lZ,iB]
 ·rw[if_neg h,if_neg h]
@[go_sem] theorem Z5 (d:Nat) (zero:List AV):opX G (some d) (.allocS zero) [] .sh none (ST l m sh)=some (ST (eX l d (.ptr sh.length 0)) m (sh++[zero])):=by
 unfold opX;simp only[map_nil,kf,kf0,jY,if_true];rw[KG,lZ,iB]
def YT (d:Nat) (l:List (Nat × AV)) (m:List (Nat × Option (List AV))) (sh:LL):Option (List AV)->Option AS
 | some cs=>if (aE none m d).isNone then some (ST (eX l d (.loc d 0)) (eX m d (some cs)) sh) else none
 | none=>none
@[go_sem] theorem zAT (d:Nat) (cs:List AV):YT d l m sh (some cs)=if (aE none m d).isNone then some (ST (eX l d (.loc d 0)) (eX m d (some cs)) sh) else none:=(rfl)
@[go_sem] theorem zJQ (d n:Nat) (x:AR):opX G (some d) (.box n) [x] (.lo d) none (ST l m sh)=YT d l m sh (cF n (ev (aE .any l) x)):=by
 unfold opX;simp only[map_cons,map_nil,kf,kf0,EN,Option.getD_some,true_and,oZ]
 cases cF n (ev (aE AV.any l) x) with
 | none=>simp only[Option.map_none,ite_self];rfl
 | some cs =>
  simp only[Option.map_some,YT];by_cases h:(aE none m d).isNone=true
  ·rw[if_pos h,if_pos h]
   show some (put (dI (wrm (ST l m sh) _ _) none) (some d) _)=_;rw[D6,lZ,iB]
  ·rw[if_neg h,if_neg h]
def UZ (d:Nat) (l:List (Nat × AV)) (m:List (Nat × Option (List AV))) (sh:LL):Option (List AV)->Option AS
 | some cs=>some (ST (eX l d (.ptr sh.length 0)) m (sh++[cs]))
 | none=>none
@[go_sem] theorem YU (d:Nat) (cs:List AV):UZ d l m sh (some cs)=some (ST (eX l d (.ptr sh.length 0)) m (sh++[cs])):=(rfl)
@[go_sem] theorem zGY (d n:Nat) (x:AR):opX G (some d) (.boxS n) [x] .sh none (ST l m sh)=UZ d l m sh (cF n (ev (aE .any l) x)):=by
 unfold opX;simp only[map_cons,map_nil,kf,kf0,jY,if_true,oZ]
 cases cF n (ev (aE AV.any l) x) with
 | none=>rfl
 | some cs =>
  show some (put (dI (wrm (ST l m sh) _ _) none) (some d) _)=_;rw[KG,lZ,iB];rfl
def nM:List AV->Option (List AV)
 | []=>some []
 | x :: xs=>if cD (aI x)=true then (nM xs).map (aI x :: ·) else none
theorem DI:∀ (x:List AV),nM x=if x.all (fun y=>cD (aI y))=true then some (x.map aI) else none
 | []=>rfl
 | x :: xs=>by
  simp only[nM,DI xs,all_cons,map_cons];by_cases h:cD (aI x)=true
  ·rw[if_pos h]
   simp only[h,Bool.true_and]
   split<;>rfl
  ·rw[if_neg h]
   have:cD (aI x)=false:=by simpa using h
   simp [this]
@[go_sem] theorem zHN (k:IntKind) (n:Int):ldV (.int k n)=some (.int k n):=(rfl)
@[go_sem] theorem zHM (s:List UInt8):ldV (.str s)=some (.str s):=(rfl)
@[go_sem] theorem zJV (a:Nat):ldV (.mp a)=some (.mp a):=(rfl)
@[go_sem] theorem zJU (z:Nat) (x:LL):ldV (.sl .no z x)=some (.sl .no z x):=(rfl)
@[go_sem] theorem zAH:nM []=some []:=(rfl)
@[go_sem] theorem zAI (k:IntKind) (n:Int) (xs:List AV):nM (.int k n :: xs)=(nM xs).map (.int k n :: ·):=(rfl)
@[go_sem] theorem zAG (s:List UInt8) (xs:List AV):nM (.str s :: xs)=(nM xs).map (.str s :: ·):=(rfl)
@[go_sem] theorem zEO (z:Nat) (x:LL) (xs:List AV):nM (.sl .no z x :: xs)=(nM xs).map (.sl .no z x :: ·):=(rfl)
@[go_sem] theorem zAC (off n:Nat) (x:List AV):ldC false off n x=(x[off]?).bind ldV:=by
 unfold ldC;simp only[Bool.false_eq_true,if_false];cases x[off]?<;>rfl
@[go_sem] theorem zDV (off n:Nat) (x:List AV):ldC true off n x=if ((x.drop off).take n).length=n then (nM ((x.drop off).take n)).map .agg else none:=by
 unfold ldC;rw[if_pos rfl,DI];by_cases h1:((x.drop off).take n).length=n
 ·rw[if_pos h1]
  by_cases h2:((x.drop off).take n).all (fun x=>cD (aI x))=true
  ·rw[if_pos ⟨h1,h2⟩,if_pos h2];rfl
  ·rw[if_neg (fun h=>h2 h.2),if_neg h2];rfl
 ·rw[if_neg (fun h=>h1 h.1),if_neg h1]
def ldA (ml:ML) (agg:Bool) (n:Nat) (m:List (Nat × Option (List AV))) (sh:LL):AV->Option AV
 | .loc s off=>if ml=.lo s then (aE none m s).bind fun cells=>ldC agg off n cells else none
 | .ptr o off=>if ml=.sh then (sh[o]?).bind fun cells=>ldC agg off n cells else none
 | .ip cells=>gI agg 0 n cells
 | _=>none
@[go_sem] theorem zHP (s:Nat) (agg:Bool) (n off:Nat):ldA (.lo s) agg n m sh (.loc s off)=(aE none m s).bind fun cells=>ldC agg off n cells:=by simp [ldA]
@[go_sem] theorem zHO (agg:Bool) (n o off:Nat):ldA .sh agg n m sh (.ptr o off)=(sh[o]?).bind fun cells=>ldC agg off n cells:=by simp [ldA]
@[go_sem] theorem zJW (ml:ML) (agg:Bool) (n:Nat) (cells:List AV):ldA ml agg n m sh (.ip cells)=gI agg 0 n cells:=(rfl)
theorem oB (ml:ML) (d:Nat) (v:AV):(some (put (dI (wrm (ST l m sh) (rdm (ST l m sh) ml) ml) none) (some d) v):Option AS)=fR d l m sh (some v):=by
 rw[@FY KT,lZ,iB];rfl
@[go_sem] theorem zLE (d:Nat) (agg:Bool) (n:Nat) (x:AR) (ml:ML):opX G (some d) (.ld agg n) [x] ml none (ST l m sh)=fR d l m sh (ldA ml agg n m sh (ev (aE .any l) x)):=by
 unfold opX;have key:=fun v=>oB (l:=l) (m:=m) (sh:=sh) ml d v
 simp only[map_cons,map_nil,kf,kf0,oZ];cases hx:ev (aE AV.any l) x<;>simp only[ldA]<;>try rfl
 ·rename_i o off
  by_cases hml:ml=.sh
  ·subst hml
   simp only[if_true,jY]
   cases sh[o]? with
   | none=>rfl
   | some cells =>
    simp only[Option.bind_some]
    cases ldC agg off n cells with
    | none=>rfl
    | some v=>exact key v
  ·simp only[hml,if_false];rfl
 ·rename_i s off
  by_cases hml:ml=.lo s
  ·subst hml
   rw[if_pos rfl,if_pos rfl];have h1:(rdm (ST l m sh) (.lo s)).1=aE none m s:=rfl;rw[h1]
   cases aE none m s with
   | none=>rfl
   | some cells =>
    simp only[Option.bind_some]
    cases ldC agg off n cells with
    | none=>rfl
    | some v=>exact key v
  ·simp only[hml,if_false];rfl
 ·cases gI agg 0 n _ with
  | none=>rfl
  | some v=>exact key v
@[go_sem] theorem zFO (k:IntKind) (n:Int) (x:List AV):cR (.int k n :: x)=true:=(rfl)
@[go_sem] theorem zIH (o:Own) (z:Nat) (y:LL) (x:List AV):cR (.sl o z y :: x)=true:=(rfl)
def stX (ml:ML) (_:Nat) (l:List (Nat × AV)) (m:List (Nat × Option (List AV))) (sh:LL):AV->Option (List AV)->Option AS
 | .loc s off,some cs=>if ml=.lo s then (aE none m s).bind fun cells=>(gX off cs cells).map fun c'=>ST l (eX m s (some c')) sh else none
 | .ptr o off,some cs=>if ml=.sh then (sh[o]?).bind fun cells=>if cR cells=true then (gX off cs cells).map fun c'=>ST l m (sh.set o c') else none else none
 | _,_=>none
@[go_sem] theorem zGK (s n off:Nat) (cs:List AV):stX (.lo s) n l m sh (.loc s off) (some cs)=(aE none m s).bind fun cells=>(gX off cs cells).map fun c'=>ST l (eX m s (some c')) sh:=by simp [stX]
@[go_sem] theorem zGJ (o n off:Nat) (cs:List AV):stX .sh n l m sh (.ptr o off) (some cs)=(sh[o]?).bind fun cells=>if cR cells=true then (gX off cs cells).map fun c'=>ST l m (sh.set o c') else none:=by simp [stX]
@[go_sem] theorem zLB (n:Nat) (x y:AR) (ml:ML):opX G none (.st n) [x,y] ml none (ST l m sh)=stX ml n l m sh (ev (aE .any l) x) (dM n (ev (aE .any l) y)):=by
 unfold opX;simp only[map_cons,map_nil,kf,kf0,oZ];cases hy:dM n (ev (aE AV.any l) y) with
 | none =>
  have h0:∀ {α β:Type} (o:Option α),(o.bind fun _=>(none:Option β))=none:=fun o=>by cases o<;>rfl
  cases ev (aE AV.any l) x<;>simp only[stX,Option.bind_none,h0,ite_self]<;>rfl
 | some cs =>
  cases hx:ev (aE AV.any l) x<;>simp only[stX,Option.bind_some]<;>try rfl
  ·rename_i o off
   by_cases hml:ml=.sh
   ·subst hml
    simp only[if_true,jY]
    cases sh[o]? with
    | none=>rfl
    | some cells =>
     simp only[Option.bind_some];by_cases hb:cR cells=true
     ·rw[if_pos hb,if_pos hb]
      cases gX off cs cells<;>rfl
     ·rw[if_neg hb,if_neg hb]
   ·simp only[hml,if_false]
  ·rename_i s off
   by_cases hml:ml=.lo s
   ·subst hml
    simp only[if_true,EN]
    cases aE none m s with
    | none=>rfl
    | some cells =>
     simp only[Option.bind_some]
     cases gX off cs cells with
     | none=>rfl
     | some c' =>
      show some (put (dI (wrm (ST l m sh) _ (.lo s)) none) none _)=_;rw[D6];rfl
   ·simp only[hml,if_false]
def JF (d:Nat) (l:List (Nat × AV)) (m:List (Nat × Option (List AV))) (r:Option (AV × LL)):Option AS:=r.map fun r=>ST (eX l d r.1) m r.2
@[go_sem] theorem Z0 (d:Nat) (v:AV) (sh':LL):JF d l m (some (v,sh'))=some (ST (eX l d v) m sh'):=(rfl)
theorem QZ {d:Nat} {k:AK} {args:List AR} {r:Option (AV × LL)} (h:kf G d .sh k (args.map (ev (aE .any l))) (none,sh)=r.map fun v=>(v.1,(none,v.2))):opX G (some d) k args .sh none (ST l m sh)=JF d l m r:=by
 unfold opX;have h':kf G ((some d).getD 0) .sh k (args.map (ev (ST l m sh).fr)) (rdm (ST l m sh) .sh)=r.map fun v=>(v.1,(none,v.2)):=h
 rw[h']
 cases r with
 | none=>rfl
 | some v =>
  show some (put (ST l m v.2) (some d) v.1)=_;rw[iB];rfl
def s2bA (sh:LL):AV->Option (AV × LL)
 | .str s=>if s.length<=140737488355328 then some (.ss sh.length 0 s.length 1,sh++[s.map fun b=>.int .u8 (b.toNat:Int)]) else none
 | _=>none
def zKT (s:List UInt8):List AV:=s.map fun b=>.int .u8 (b.toNat:Int)
def J4 (sh:LL):AV->Option AV
 | .sl _ z l=>if z=1 then (bY l).map .str else none
 | .ss o off n z=>if z=1 then (fL false 1 sh (.ss o off n z)).bind fun l=>(bY l).map .str else none
 | _=>none
@[go_sem] theorem S8 (o off n:Nat):J4 sh (.ss o off n 1)=(sh[o]?).bind fun cells=>(dD off n 1 cells).bind fun l=>(bY l).map .str:=by
 simp only[J4,fL,if_true,and_self];cases sh[o]?<;>rfl
@[go_sem] theorem zGZ (d:Nat) (x:AR):opX G (some d) .b2s [x] .sh none (ST l m sh)=fR d l m sh (J4 sh (ev (aE .any l) x)):=by
 unfold opX;simp only[map_cons,map_nil,kf,oZ];cases hx:ev (aE AV.any l) x<;>try rfl
 ·rename_i o z y
  simp only[kf0,J4,jY];by_cases hz:z=1
  ·rw[if_pos hz,if_pos hz]
   cases bY y with
   | none=>rfl
   | some s=>exact oB .sh d _
  ·rw[if_neg hz,if_neg hz];rfl
 ·rename_i o off n z
  simp only[kf0,J4,jY,true_and];by_cases hz:z=1
  ·rw[if_pos hz,if_pos hz]
   cases fL false 1 sh (.ss o off n z) with
   | none=>rfl
   | some y =>
    simp only[Option.bind_some]
    cases bY y with
    | none=>rfl
    | some s=>exact oB .sh d _
  ·rw[if_neg hz,if_neg hz];rfl
def YX:AV->Option AV
 | .sl _ z l=>if z=1 then (bY l).map .str else none
 | _=>none
@[go_sem] theorem zIU (o:Own) (x:LL):YX (.sl o 1 x)=(bY x).map .str:=(rfl)
@[go_sem] theorem zJS (d:Nat) (x:AR):opX G (some d) .b2s [x] .none none (ST l m sh)=fR d l m sh (YX (ev (aE .any l) x)):=by
 apply cZ;simp only[map_cons,map_nil,kf]
 cases ev (aE AV.any l) x<;>try rfl
 ·simp only[kf0,YX]
  split
  ·simp only[Option.map_map];rfl
  ·rfl
@[go_sem] theorem OY:bY []=some []:=(rfl)
def Q1 (z:Nat) (zero:List AV) (bytes:Nat) (sh:LL):AV->AV->Option (AV × LL)
 | .int k n,.int k' c=>if k=.i64/\k'=.i64/\0<=n/\n<=c/\c*bytes<=140737488355328/\c<=4611686018427387904/\0 < z/\zero.length=z then some (.ss sh.length 0 n.toNat z,sh++[b8 zero n.toNat]) else none
 | _,_=>none
@[go_sem] theorem CR (z:Nat) (zero:List AV) (bytes:Nat) (n c:Int):Q1 z zero bytes sh (.int .i64 n) (.int .i64 c)=if 0<=n/\n<=c/\c*bytes<=140737488355328/\c<=4611686018427387904/\0 < z/\zero.length=z then some (.ss sh.length 0 n.toNat z,sh++[b8 zero n.toNat]) else none:=by
 simp only[Q1,true_and]
@[go_sem] theorem zJH (d z:Nat) (zero:List AV) (bytes:Nat) (x y:AR):opX G (some d) (.mkl z zero bytes) [x,y] .sh none (ST l m sh)=JF d l m (Q1 z zero bytes sh (ev (aE .any l) x) (ev (aE .any l) y)):=by
 apply QZ;simp only[map_cons,map_nil,kf]
 cases ev (aE AV.any l) x<;>cases ev (aE AV.any l) y<;>try rfl
 simp only[kf0,Q1,true_and]
 split<;>rfl
def gS (z bytes:Nat) (sh:LL) (l2:Option LL) (x:AV):Option (AV × LL):=
 l2.bind fun l2=>match x with
   | .sl .full _ []=>if l2=[] then some (.sl .full z [],sh) else if 0 < z/\l2.length*bytes<=140737488355328/\l2.length<=4611686018427387904 then some (.ss sh.length 0 l2.length z,sh++[l2.flatten]) else none
   | .ss o off n z'=>if off=0/\z'=z/\0 < z/\(n+l2.length)*bytes<=140737488355328/\n+l2.length<=4611686018427387904 then
     (sh[o]?).bind fun cells=>if cR cells/\n*z=cells.length/\cells.all jF then some (.ss sh.length 0 (n+l2.length) z,sh.set o aZ++[cells++l2.flatten]) else none
    else none
   | _=>none
@[go_sem] theorem zHB (d:Nat) (str:Bool) (z bytes:Nat) (x y:AR):opX G (some d) (.appS str z bytes) [x,y] .sh none (ST l m sh)=JF d l m (gS z bytes sh (fL str z sh (ev (aE .any l) y)) (ev (aE .any l) x)):=by
 apply QZ;simp only[map_cons,map_nil,kf,kf0,if_true,gS]
 cases fL str z sh (ev (aE AV.any l) y) with
 | none=>rfl
 | some l2 =>
  simp only[Option.bind_some];generalize ev (aE AV.any l) x=vx
  cases vx<;>try rfl
  ·rename_i o z' y
   cases o<;>cases y<;>try rfl
   simp only;by_cases h1:l2=[]
   ·rw[if_pos h1,if_pos h1];rfl
   ·rw[if_neg h1,if_neg h1]
    split<;>rfl
  ·rename_i o off n z'
   simp only;by_cases h1:off=0/\z'=z/\0 < z/\(n+l2.length)*bytes<=140737488355328/\n+l2.length<=4611686018427387904
   ·rw[if_pos h1,if_pos h1]
    cases sh[o]? with
    | none=>rfl
    | some cells =>
     simp only[Option.bind_some]
     split<;>rfl
   ·rw[if_neg h1,if_neg h1];rfl
def LB (len:Nat) (sh:LL):AV->AV->AV->Option AV
 | .ptr o off,.int _ i,.int _ j=>if 0<=i/\i < j/\j<=len then (sh[o]?).bind fun cells=>if cR cells/\off+len<=cells.length then some (.ss o (off+i.toNat) (j.toNat - i.toNat) 1) else none else none
 | _,_,_=>none
@[go_sem] theorem zJA (d len:Nat) (x i j:AR):opX G (some d) (.sla len) [x,i,j] .sh none (ST l m sh)=fR d l m sh (LB len sh (ev (aE .any l) x) (ev (aE .any l) i) (ev (aE .any l) j)):=by
 unfold opX;have h':kf G ((some d).getD 0) .sh (.sla len) ([x,i,j].map (ev (ST l m sh).fr)) (rdm (ST l m sh) .sh)=(LB len sh (ev (aE .any l) x) (ev (aE .any l) i) (ev (aE .any l) j)).map fun v=>(v,(none,sh)):=by
  simp only[map_cons,map_nil,kf,oZ]
  cases ev (aE AV.any l) x<;>cases ev (aE AV.any l) i<;>cases ev (aE AV.any l) j<;>try rfl
  rename_i o off k1 i k2 j;simp only[kf0,LB,true_and,jY];by_cases h:0<=i/\i < j/\j<=len
  ·rw[if_pos h,if_pos h]
   cases sh[o]? with
   | none=>rfl
   | some cells =>
    simp only[Option.bind_some];by_cases h2:cR cells=true/\off+len<=cells.length
    ·rw[if_pos h2,if_pos h2];rfl
    ·rw[if_neg h2,if_neg h2];rfl
  ·rw[if_neg h,if_neg h];rfl
 rw[h']
 cases LB len sh (ev (aE .any l) x) (ev (aE .any l) i) (ev (aE .any l) j) with
 | none=>rfl
 | some v =>
  show some (put (ST l m sh) (some d) v)=_;rw[iB];rfl
@[go_sem] theorem zBV (len o off:Nat) (k1 k2:IntKind) (i j:Int):LB len sh (.ptr o off) (.int k1 i) (.int k2 j)=if 0<=i/\i < j/\j<=len then (sh[o]?).bind fun cells=>if cR cells/\off+len<=cells.length then some (.ss o (off+i.toNat) (j.toNat - i.toNat) 1) else none else none:=(rfl)
def clrX (z:Nat) (zero:List AV) (l:List (Nat × AV)) (m:List (Nat × Option (List AV))) (sh:LL):AV->Option AS
 | .ss o off n z'=>if z'=z/\zero.length=z then (sh[o]?).bind fun cells=>if cR cells then (gX off (b8 zero n) cells).map fun c'=>ST l m (sh.set o c') else none else none
 | .sl _ _ []=>some (ST l m sh)
 | _=>none
def cU (bytes n:Nat):Bool:=decide (n*bytes<=140737488355328/\n<=4611686018427387904)
@[go_sem] theorem jS (z' bytes z:Nat) (hz:0 < z) (r:List AV) (l2:LL):gS z bytes sh (some (r :: l2)) (.sl .full z' [])=if cU bytes (l2.length+1)=true then some (.ss sh.length 0 (l2.length+1) z,sh++[(r :: l2).flatten]) else none:=by
 simp [gS,cU,hz]
@[go_sem] theorem j9 (o n bytes z:Nat) (hz:0 < z) (l2:LL):gS z bytes sh (some l2) (.ss o 0 n z)=if cU bytes (n+l2.length)=true then (sh[o]?).bind fun cells=>if cR cells=true/\n*z=cells.length/\cells.all jF=true then some (.ss sh.length 0 (n+l2.length) z,sh.set o aZ++[cells++l2.flatten]) else none else none:=by
 simp [gS,cU,hz]
@[go_sem] theorem zCD (o:Own) (z:Nat) (x:LL):fL false z sh (.sl o z x)=some x:=by simp [fL,jW]
@[go_sem] theorem zCC (o off n z:Nat):fL false z sh (.ss o off n z)=(sh[o]?).bind fun cells=>dD off n z cells:=by simp [fL]
@[go_sem] theorem ZS (s:List UInt8):fL true 1 sh (.str s)=some (aJ s):=by simp [fL,jW]
def zKZ (z:Nat):AV->Option AV
 | .sl _ _ _=>some (.sl .full z [])
 | .ss _ _ _ _=>some (.sl .full z [])
 | _=>none
def I6 (left:Bool) (x y:AV):Option AV:=shA left x y
@[go_sem] theorem zJB (d:Nat) (left:Bool) (x y:AR):opX G (some d) (.shf left) [x,y] .none none (ST l m sh)=fR d l m sh (I6 left (ev (aE .any l) x) (ev (aE .any l) y)):=by
 apply cZ;simp only[map_cons,map_nil,kf,kf0,I6]
@[go_sem] theorem zIZ (k k':IntKind) (a b:Int):I6 true (.int k a) (.int k' b)=if 0<=b then some (.int k (k.wrap (a*2 ^ (min b.toNat k.bits)))) else none:=by simp [I6,shA]
@[go_sem] theorem zIY (k k':IntKind) (a b:Int):I6 false (.int k a) (.int k' b)=if 0<=b then some (.int k (a.fdiv (2 ^ (min b.toNat k.bits)))) else none:=by simp [I6,shA]
def cviA (k:IntKind):AV->Option AV
 | .int _ n=>some (.int k (k.wrap n))
 | _=>none
@[go_sem] theorem zFL (k k':IntKind) (n:Int):cviA k (.int k' n)=some (.int k (k.wrap n)):=(rfl)
@[go_sem] theorem zJP (d:Nat) (k:IntKind) (x:AR):opX G (some d) (.cvi k) [x] .none none (ST l m sh)=fR d l m sh (cviA k (ev (aE .any l) x)):=by
 apply cZ;simp only[map_cons,map_nil,kf]
 cases ev (aE AV.any l) x<;>rfl
def XN (agg:Bool) (z len:Nat):AV->AV->Option AV
 | .agg l,.int _ i=>if 0<=i/\i < len/\l.length=len*z then gI agg (i.toNat*z) z l else none
 | _,_=>none
@[go_sem] theorem zEF (agg:Bool) (z len:Nat) (x:List AV) (k:IntKind) (i:Int):XN agg z len (.agg x) (.int k i)=if 0<=i/\i < len/\x.length=len*z then gI agg (i.toNat*z) z x else none:=(rfl)
@[go_sem] theorem zJM (d:Nat) (agg:Bool) (z len:Nat) (x y:AR):opX G (some d) (.ixA agg z len) [x,y] .none none (ST l m sh)=fR d l m sh (XN agg z len (ev (aE .any l) x) (ev (aE .any l) y)):=by
 apply cZ;simp only[map_cons,map_nil,kf]
 cases ev (aE AV.any l) x<;>cases ev (aE AV.any l) y<;>try rfl
 simp only[kf0,XN]
 split<;>rfl
@[go_sem] theorem zJG (d:Nat):opX G (some d) .mkm [] .sh none (ST l m sh)=some (ST (eX l d (.mp sh.length)) m (sh++[[.mapv []]])):=by
 have:opX G (some d) .mkm [] .sh none (ST l m sh)=JF d l m (some (.mp sh.length,sh++[[.mapv []]])):=by
  apply QZ;rfl
 rw[this];rfl
def WR (ok agg:Bool) (kk:List Nat) (zero:List AV) (sh:LL):AV->AV->Option AV
 | .mp o,k=>if bC k=true then (kS sh o).bind fun l=>(lkA kk k l).bind fun r=>lkR ok agg zero r else none
 | _,_=>none
@[go_sem] theorem zHL (ok agg:Bool) (kk:List Nat) (zero:List AV) (o:Nat) (k:AV):WR ok agg kk zero sh (.mp o) k=if bC k=true then (kS sh o).bind fun l=>(lkA kk k l).bind fun r=>lkR ok agg zero r else none:=(rfl)
@[go_sem] theorem zJI (d:Nat) (ok agg:Bool) (kk:List Nat) (zero:List AV) (x y:AR):opX G (some d) (.lkp ok agg kk zero) [x,y] .sh none (ST l m sh)=fR d l m sh (WR ok agg kk zero sh (ev (aE .any l) x) (ev (aE .any l) y)):=by
 unfold opX;simp only[map_cons,map_nil,kf,oZ];cases hx:ev (aE AV.any l) x<;>try rfl
 rename_i o;simp only[kf0,WR,jY,true_and];by_cases hz:bC (ev (aE AV.any l) y)=true
 ·rw[if_pos hz,if_pos hz]
  cases kS sh o with
  | none=>rfl
  | some y' =>
   simp only[Option.bind_some]
   cases lkA kk (ev (aE AV.any l) y) y' with
   | none=>rfl
   | some r =>
    simp only[Option.bind_some]
    cases lkR ok agg zero r with
    | none=>rfl
    | some v=>exact oB .sh d v
 ·rw[if_neg hz,if_neg hz];rfl
def WM (kk:List Nat) (l:List (Nat × AV)) (m:List (Nat × Option (List AV))) (sh:LL):AV->AV->AV->Option AS
 | .mp o,k,v=>if aW k=true/\aW v=true then (kS sh o).bind fun x=>(muA kk k v x).map fun x'=>ST l m (sh.set o [.mapv x']) else none
 | _,_,_=>none
@[go_sem] theorem zHD (kk:List Nat) (o:Nat) (k v:AV):WM kk l m sh (.mp o) k v=if aW k=true/\aW v=true then (kS sh o).bind fun x=>(muA kk k v x).map fun x'=>ST l m (sh.set o [.mapv x']) else none:=(rfl)
@[go_sem] theorem zJE (kk:List Nat) (x y z:AR):opX G none (.mup kk) [x,y,z] .sh none (ST l m sh)=WM kk l m sh (ev (aE .any l) x) (ev (aE .any l) y) (ev (aE .any l) z):=by
 unfold opX;simp only[map_cons,map_nil,kf,oZ];cases hx:ev (aE AV.any l) x<;>try rfl
 rename_i o;simp only[kf0,WM,jY,true_and];by_cases hz:aW (ev (aE AV.any l) y)=true/\aW (ev (aE AV.any l) z)=true
 ·rw[if_pos hz,if_pos hz]
  cases kS sh o with
  | none=>rfl
  | some y' =>
   simp only[Option.bind_some]
   cases muA kk (ev (aE AV.any l) y) (ev (aE AV.any l) z) y'<;>rfl
 ·rw[if_neg hz,if_neg hz]
def Q9 (sh:LL):AV->Option (AV × LL)
 | .ptr o off=>(sh[o]?).bind fun cells=>if cR cells=true then (cells[off]?).bind fun x=>match x with
   | .sl .own z l=>some (x,sh.set o (cells.set off (.sl .no z l)))
   | .sl .full _ _=>some (x,sh)
   | _=>none else none
 | _=>none
@[go_sem] theorem zJK (d:Nat) (x:AR):opX G (some d) .ldo [x] .sh none (ST l m sh)=JF d l m (Q9 sh (ev (aE .any l) x)):=by
 apply QZ;simp only[map_cons,map_nil,kf];cases hx:ev (aE AV.any l) x<;>try rfl
 rename_i o off;simp only[kf0,Q9,if_true]
 cases sh[o]? with
 | none=>rfl
 | some cells =>
  simp only[Option.bind_some];split
  ·cases cells[off]? with
   | none=>rfl
   | some y =>
    simp only[Option.bind_some]
    cases y<;>try rfl
    rename_i o z q;cases o<;>rfl
  ·rfl
def MZ (o off:Nat) (cells:List AV) (sh:LL):AV->Option (AV × LL)
 | .sl .own z l=>some (.sl .own z l,sh.set o (cells.set off (.sl .no z l)))
 | .sl .full z l=>some (.sl .full z l,sh)
 | _=>none
@[go_sem] theorem zDU (o off:Nat):Q9 sh (.ptr o off)=(sh[o]?).bind fun cells=>if cR cells=true then (cells[off]?).bind fun x=>MZ o off cells sh x else none:=by
 simp only[Q9]
 congr 1
 funext cells
 split
 ·congr 1
  funext x
  unfold MZ
  split<;>rfl
 ·rfl
def KV (l:List (Nat × AV)) (m:List (Nat × Option (List AV))) (sh:LL):AV->AV->Option AS
 | .ptr o off,.sl md z x=>(sh[o]?).bind fun cells=>if cR cells=true/\off < cells.length then some (ST l m (sh.set o (cells.set off (.sl md z x)))) else none
 | _,_=>none
@[go_sem] theorem zBS (o off:Nat) (md:Own) (z:Nat) (x:LL):KV l m sh (.ptr o off) (.sl md z x)=(sh[o]?).bind fun cells=>if cR cells=true/\off < cells.length then some (ST l m (sh.set o (cells.set off (.sl md z x)))) else none:=(rfl)
theorem KU (x:AR) (v:AV):kf G 0 .sh .sto [ev (aE .any l) x,v] (none,sh)=(match ev (aE .any l) x,v with
  | .ptr o off,.sl md z y=>(sh[o]?).bind fun cells=>if cR cells=true/\off < cells.length then some (.any,(none,sh.set o (cells.set off (.sl md z y)))) else none
  | _,_=>none):=by
 simp only[kf];cases hx:ev (aE AV.any l) x<;>try rfl
 rename_i o off;simp only[kf0,if_true];have h0:∀ {α β:Type} (o:Option α),(o.bind fun _=>(none:Option β))=none:=fun o=>by cases o<;>rfl
 cases v<;>simp only[ite_self,h0]
@[go_sem] theorem zGR (x:AR) (s:Nat):opX G none .sto [x,.t s] .sh (some s) (ST l m sh)=KV (eX l s (aI (aE .any l s))) m sh (ev (aE .any l) x) (aE .any l s):=by
 unfold opX;have h:=KU (G:=G) (l:=l) (sh:=sh) x (aE .any l s);have h':kf G ((none:Option Nat).getD 0) .sh .sto ([x,AR.t s].map (ev (ST l m sh).fr)) (rdm (ST l m sh) .sh)=_:=h;rw[h'];cases hx:ev (aE AV.any l) x<;>try rfl
 rename_i o off;cases hv:aE AV.any l s<;>try rfl
 rename_i md z y;simp only[KV]
 cases sh[o]? with
 | none=>rfl
 | some cells =>
  simp only[Option.bind_some];by_cases hc:cR cells=true/\off < cells.length
  ·rw[if_pos hc,if_pos hc]
   show some (put (dI (ST l m _) (some s)) none _)=_;rw[BH,hv];rfl
  ·rw[if_neg hc,if_neg hc]
@[go_sem] theorem zGS (x:AR) (v:AV):opX G none .sto [x,.c v] .sh none (ST l m sh)=KV l m sh (ev (aE .any l) x) v:=by
 unfold opX;have h:=KU (G:=G) (l:=l) (sh:=sh) x v;have h':kf G ((none:Option Nat).getD 0) .sh .sto ([x,AR.c v].map (ev (ST l m sh).fr)) (rdm (ST l m sh) .sh)=_:=h;rw[h'];cases hx:ev (aE AV.any l) x<;>try rfl
 rename_i o off
 cases v<;>try rfl
 rename_i md z y;simp only[KV]
 cases sh[o]? with
 | none=>rfl
 | some cells =>
  simp only[Option.bind_some];by_cases hc:cR cells=true/\off < cells.length
  ·rw[if_pos hc,if_pos hc];rfl
  ·rw[if_neg hc,if_neg hc]
def V5 (d:Nat) (l:List (Nat × AV)) (m:List (Nat × Option (List AV))) (sh:LL):Option (AV × LL)->Option AS
 | some (v,[])=>some (ST (eX l d v) m sh)
 | _=>none
def V4 (d:Nat) (l:List (Nat × AV)) (m:List (Nat × Option (List AV))):Option (AV × LL)->Option AS
 | some (v,sh')=>some (ST (eX l d v) m sh')
 | none=>none
@[go_sem] theorem ZV (d:Nat) (v:AV):V5 d l m sh (some (v,[]))=some (ST (eX l d v) m sh):=(rfl)
@[go_sem] theorem ZT (d:Nat) (v:AV) (sh':LL):V4 d l m (some (v,sh'))=some (ST (eX l d v) m sh'):=(rfl)
def jE (p:Bool) (xs:List AV):Bool:=xs.all (gR p)
@[go_sem] theorem WJ (p:Bool):jE p []=true:=(rfl)
@[go_sem] theorem UC (p:Bool) (x:AV) (xs:List AV):jE p (x :: xs)=(gR p x && jE p xs):=(rfl)
@[go_sem] theorem zFX (p:Bool) (k:IntKind) (n:Int):gR p (.int k n)=true:=(rfl)
@[go_sem] theorem zAW (p b:Bool):gR p (.bool b)=true:=(rfl)
@[go_sem] theorem zFV (p:Bool) (s:List UInt8):gR p (.str s)=true:=(rfl)
@[go_sem] theorem zFW (p:Bool) (a b:Nat):gR p (.ptr a b)=p:=(rfl)
@[go_sem] theorem zIV (p:Bool) (a b c d:Nat):gR p (.ss a b c d)=p:=(rfl)
@[go_sem] theorem zFY (p:Bool) (x:List AV):gR p (.agg x)=true:=(rfl)
@[go_sem] theorem zIW (p:Bool) (o:Own) (z:Nat) (x:LL):gR p (.sl o z x)=true:=(rfl)
def xW (G:aO) (d:Nat) (f:FuncId) (xs:List AV) (l:List (Nat × AV)) (m:List (Nat × Option (List AV))) (sh:LL):Option AS:=
 if jE false xs then V5 d l m sh (G f (xs.map fE) []) else none
def xS (G:aO) (d:Nat) (f:FuncId) (xs:List AV) (l:List (Nat × AV)) (m:List (Nat × Option (List AV))) (sh:LL):Option AS:=
 if jE true xs then V4 d l m (G f (xs.map aI) sh) else none
theorem J3 (d:Nat) (f:FuncId) (xs:List AV):(match l8 G .none f xs (rdm (ST l m sh) .none) with | some (v,m')=>some (put (dI (wrm (ST l m sh) m' .none) none) (some d) v) | none=>none)=xW G d f xs l m sh:=by
 unfold l8 xW jE;simp only;by_cases hc:xs.all (gR false)=true
 ·rw[if_pos hc,if_pos hc]
  cases hg:G f (xs.map fE) [] with
  | none=>rfl
  | some r =>
   obtain⟨v,sh'⟩:=r
   cases sh' with
   | nil =>
    show some (put (ST l m sh) (some d) v)=_;rw[iB];rfl
   | cons c cs=>rfl
 ·rw[if_neg hc,if_neg hc]
theorem S3 (d:Nat) (f:FuncId) (xs:List AV):(match l8 G .sh f xs (rdm (ST l m sh) .sh) with | some (v,m')=>some (put (dI (wrm (ST l m sh) m' .sh) none) (some d) v) | none=>none)=xS G d f xs l m sh:=by
 unfold l8 xS jE;simp only[jY];by_cases hc:xs.all (gR true)=true
 ·rw[if_pos hc,if_pos hc]
  cases hg:G f (xs.map aI) sh with
  | none=>rfl
  | some r =>
   obtain⟨v,sh'⟩:=r;show some (put (ST l m sh') (some d) v)=_;rw[iB];rfl
 ·rw[if_neg hc,if_neg hc]
@[go_sem] theorem zCY (d:Nat) (f:FuncId) (args:List AR):opX G (some d) (.call f) args .none none (ST l m sh)=xW G d f (args.map (ev (aE .any l))) l m sh:=J3 d f _
@[go_sem] theorem zCW (d:Nat) (f:FuncId) (args:List AR):opX G (some d) (.call f) args .sh none (ST l m sh)=xS G d f (args.map (ev (aE .any l))) l m sh:=S3 d f _
@[go_sem] theorem zAS (d:Nat) (f:FuncId) (xs:List AV):xW G d f xs l m sh=if jE false xs then V5 d l m sh (G f (xs.map fE) []) else none:=(rfl)
@[go_sem] theorem zAR (d:Nat) (f:FuncId) (xs:List AV):xS G d f xs l m sh=if jE true xs then V4 d l m (G f (xs.map aI) sh) else none:=(rfl)
def zKR (G:aO) (d:Nat) (f:AV) (xs:List AV) (l:List (Nat × AV)) (m:List (Nat × Option (List AV))) (sh:LL):Option AS:=
 match f with
 | .fn f caps=>xW G d f (xs++caps) l m sh
 | _=>none
def zIF (G:aO) (d:Nat) (f:AV) (xs:List AV) (l:List (Nat × AV)) (m:List (Nat × Option (List AV))) (sh:LL):Option AS:=
 match f with
 | .fn f caps=>xS G d f (xs++caps) l m sh
 | _=>none
def QI (d:Nat) (l:List (Nat × AV)) (m:List (Nat × Option (List AV))) (sh:LL):Option (AV × LL)->Option AS
 | some (v,[])=>if uH v=true then some (ST (eX l d v) m sh) else none
 | _=>none
@[go_sem] theorem ZU (d:Nat) (v:AV):QI d l m sh (some (v,[]))=if uH v=true then some (ST (eX l d v) m sh) else none:=(rfl)
@[go_sem] theorem V3 (b:Bool):uH (.bool b)=true:=(rfl)
@[go_sem] theorem T3 (k:IntKind) (n:Int):bC (.int k n)=true:=(rfl)
@[go_sem] theorem U5 (k:IntKind) (n:Int):aW (.int k n)=true:=(rfl)
@[go_sem] theorem TA (b:Bool):aW (.bool b)=true:=(rfl)
@[go_sem] theorem U6 (x:List AV):aW (.agg x)=x.all bC:=(rfl)
@[go_sem] theorem ZG (k:IntKind) (n:Int):lN sh (.int k n)=some (.int k n):=(rfl)
@[go_sem] theorem zBT (o off n z:Nat):lN sh (.ss o off n z)=(sh[o]?).bind fun cells=>(dD off n z cells).map fun l=>.sl .no z l:=(rfl)
def uP:Option AV->Option (List AV)->Option (List AV)
 | some x,some xs=>some (x :: xs)
 | _,_=>none
@[go_sem] theorem YI (x:AV) (xs:List AV):uP (some x) (some xs)=some (x :: xs):=(rfl)
@[go_sem] theorem ZH:kJ sh []=some []:=(rfl)
@[go_sem] theorem VV (x:AV) (xs:List AV):kJ sh (x :: xs)=uP (lN sh x) (kJ sh xs):=by
 simp only[kJ]
 cases lN sh x<;>cases kJ sh xs<;>rfl
def xV (G:aO) (d:Nat) (f:FuncId) (ys:Option (List AV)) (l:List (Nat × AV)) (m:List (Nat × Option (List AV))) (sh:LL):Option AS:=
 ys.bind fun xs=>if jE false xs then QI d l m sh (G f (xs.map fE) []) else none
@[go_sem] theorem UY (d:Nat) (f:FuncId) (xs:List AV):xV G d f (some xs) l m sh=if jE false xs then QI d l m sh (G f (xs.map fE) []) else none:=(rfl)
theorem YN (d:Nat) (f:FuncId) (xs:List AV):(match iT G .sh f xs (rdm (ST l m sh) .sh) with | some (v,m')=>some (put (dI (wrm (ST l m sh) m' .sh) none) (some d) v) | none=>none)=xV G d f (kJ sh xs) l m sh:=by
 unfold iT xV jE;simp only[jY]
 cases kJ sh xs with
 | none=>rfl
 | some ys =>
  simp only[Option.bind_some];by_cases hc:ys.all (gR false)=true
  ·rw[if_pos hc,if_pos hc]
   cases hg:G f (ys.map fE) [] with
   | none=>rfl
   | some r =>
    obtain⟨v,sh'⟩:=r
    cases sh' with
    | nil =>
     simp only[Option.bind_some,isEmpty_nil,Bool.true_and,QI];by_cases hv:uH v=true
     ·rw[if_pos hv,if_pos hv];exact oB .sh d v
     ·rw[if_neg hv,if_neg hv]
    | cons c cs=>rfl
  ·rw[if_neg hc,if_neg hc]
@[go_sem] theorem zCX (d:Nat) (f:FuncId) (args:List AR):opX G (some d) (.callR f) args .sh none (ST l m sh)=xV G d f (kJ sh (args.map (ev (aE .any l)))) l m sh:=YN d f _
def zIG (G:aO) (d:Nat) (f:AV) (xs:List AV) (l:List (Nat × AV)) (m:List (Nat × Option (List AV))) (sh:LL):Option AS:=
 match f with
 | .fn f caps=>xV G d f (kJ sh (xs++caps)) l m sh
 | _=>none
@[go_sem] theorem zIS (k:IntKind) (a b:Int):eU .and (.int k a) (.int k b)=some (.int k (k.wrap (((a % 2 ^ k.bits).toNat &&& (b % 2 ^ k.bits).toNat:Nat):Int))):=by simp [eU]
@[go_sem] theorem zKS (k:IntKind) (a b:Int):eU .or (.int k a) (.int k b)=some (.int k (k.wrap (((a % 2 ^ k.bits).toNat ||| (b % 2 ^ k.bits).toNat:Nat):Int))):=by simp [eU]
@[go_sem] theorem zIT (k:IntKind) (a b:Int):eU .add (.int k a) (.int k b)=some (.int k (k.wrap (a+b))):=by simp [eU]
@[go_sem] theorem zII (k:IntKind) (a b:Int):eU .sub (.int k a) (.int k b)=some (.int k (k.wrap (a - b))):=by simp [eU]
@[go_sem] theorem zIM (k:IntKind) (a b:Int):eU .mul (.int k a) (.int k b)=some (.int k (k.wrap (a*b))):=by simp [eU]
@[go_sem] theorem zIK (k:IntKind) (a b:Int):eU .quo (.int k a) (.int k b)=if b=0 then none else some (.int k (k.wrap (a.tdiv b))):=by simp [eU]
@[go_sem] theorem zIJ (k:IntKind) (a b:Int):eU .rem (.int k a) (.int k b)=if b=0 then none else some (.int k (a.tmod b)):=by simp [eU]
@[go_sem] theorem zIR (k:IntKind) (a b:Int):eU .eql (.int k a) (.int k b)=some (.bool (decide (a=b))):=by simp [eU];rfl
@[go_sem] theorem zIL (k:IntKind) (a b:Int):eU .neq (.int k a) (.int k b)=some (.bool (decide (a≠b))):=by simp [eU,bne];rfl
@[go_sem] theorem zIN (k:IntKind) (a b:Int):eU .lss (.int k a) (.int k b)=some (.bool (decide (a < b))):=by simp [eU]
@[go_sem] theorem zIO (k:IntKind) (a b:Int):eU .leq (.int k a) (.int k b)=some (.bool (decide (a<=b))):=by simp [eU]
@[go_sem] theorem zIP (k:IntKind) (a b:Int):eU .gtr (.int k a) (.int k b)=some (.bool (decide (b < a))):=by simp [eU]
@[go_sem] theorem zIQ (k:IntKind) (a b:Int):eU .geq (.int k a) (.int k b)=some (.bool (decide (b<=a))):=by simp [eU]
@[go_sem] theorem OA (a b:List UInt8):eU .add (.str a) (.str b)=if a.length+b.length<=140737488355328 then some (.str (a++b)) else none:=(rfl)
@[go_sem] theorem zFS (a b:List UInt8):eU .eql (.str a) (.str b)=some (.bool (a == b)):=(rfl)
@[go_sem] theorem zFP (a b:List UInt8):eU .neq (.str a) (.str b)=some (.bool (a != b)):=(rfl)
@[go_sem] theorem zFQ (a b:List UInt8):eU .lss (.str a) (.str b)=some (.bool (Op.bytesLess a b)):=(rfl)
@[go_sem] theorem N9 (a b:List UInt8):eU .leq (.str a) (.str b)=some (.bool (Op.bytesLess a b || a == b)):=(rfl)
@[go_sem] theorem zFR (a b:List UInt8):eU .gtr (.str a) (.str b)=some (.bool !(Op.bytesLess a b || a == b)):=(rfl)
theorem N5 (F:AFun) (args:List AV) (sh:LL) (h:args.length=F.nargs):IC G F args sh=yJ F sh (aC G F.body (ST (u9 0 args) [] sh)):=by
 unfold IC;rw[if_pos h,C7]
def JY (keep:Bool) (sh0:LL) (res:List ARes) (r:Option (AX × AS)):Option (AV × LL):=yJ ⟨0,keep,.skip,res⟩ sh0 r
def GT (keep:Bool) (sh0:LL) (res:List ARes) (σ:AS):Option (AV × LL):=match eQ keep sh0 σ res with
  | some vs=>rZ keep sh0.length vs σ.sh
  | none=>none
@[go_sem] theorem zAJ (keep:Bool) (sh0:LL) (res:List ARes) (σ:AS):JY keep sh0 res (some (.norm,σ))=GT keep sh0 res σ:=(rfl)
@[go_sem] theorem zEP (keep:Bool) (sh0:LL) (res:List ARes) (σ:AS):JY keep sh0 res (some (.ret,σ))=GT keep sh0 res σ:=(rfl)
@[go_sem] theorem zEQ (keep:Bool) (sh0:LL) (res:List ARes) (c:Prop) [Decidable c] (x y:Option (AX × AS)):JY keep sh0 res (if c then x else y)=if c then JY keep sh0 res x else JY keep sh0 res y:=by split<;>rfl
def zO (agg:Bool) (n:Nat) (m:List (Nat × Option (List AV))) (sh:LL):AV->Option AV
 | .loc s off=>(aE none m s).bind fun cells=>ldC agg off n cells
 | .ptr o off=>(sh[o]?).bind fun cells=>if cR cells then ldC agg off n cells else none
 | _=>none
@[go_sem] theorem zAQ (agg:Bool) (n s off:Nat):zO agg n m sh (.loc s off)=(aE none m s).bind fun cells=>ldC agg off n cells:=(rfl)
def kF (keep:Bool) (sh0:LL) (l:List (Nat × AV)) (m:List (Nat × Option (List AV))) (sh:LL):List ARes->Option (List AV)
 | []=>some []
 | .tmp t :: rs=>uP (iQ keep sh0 sh (fE (aE .any l t))) (kF keep sh0 l m sh rs)
 | .tmpD t :: rs=>uP (iQ keep sh0 sh (aI (aE .any l t))) (kF keep sh0 l m sh rs)
 | .cell t agg n :: rs=>uP ((zO agg n m sh (aE .any l t)).bind (iQ keep sh0 sh)) (kF keep sh0 l m sh rs)
@[go_sem] theorem zCG (keep:Bool) (sh0:LL):kF keep sh0 l m sh []=some []:=(rfl)
@[go_sem] theorem zCF (keep:Bool) (sh0:LL) (t:Nat) (rs:List ARes):kF keep sh0 l m sh (.tmp t :: rs)=uP (iQ keep sh0 sh (fE (aE .any l t))) (kF keep sh0 l m sh rs):=(rfl)
@[go_sem] theorem ZW (keep:Bool) (sh0:LL) (t:Nat) (rs:List ARes):kF keep sh0 l m sh (.tmpD t :: rs)=uP (iQ keep sh0 sh (aI (aE .any l t))) (kF keep sh0 l m sh rs):=(rfl)
@[go_sem] theorem ZX (keep:Bool) (sh0:LL) (t:Nat) (agg:Bool) (n:Nat) (rs:List ARes):kF keep sh0 l m sh (.cell t agg n :: rs)=uP ((zO agg n m sh (aE .any l t)).bind (iQ keep sh0 sh)) (kF keep sh0 l m sh rs):=(rfl)
theorem vD (keep:Bool) (sh0:LL):∀ rs,eQ keep sh0 (ST l m sh) rs=kF keep sh0 l m sh rs
 | []=>rfl
 | .tmp t :: rs=>by
  simp only[eQ,uX,Option.bind_some,kF,vD keep sh0 rs];show (match iQ keep sh0 sh (fE (aE .any l t)),kF keep sh0 l m sh rs with | some v,some vs=>some (v :: vs) | _,_=>none)=_
  cases iQ keep sh0 sh (fE (aE .any l t))<;>cases kF keep sh0 l m sh rs<;>rfl
 | .tmpD t :: rs=>by
  simp only[eQ,uX,Option.bind_some,kF,vD keep sh0 rs];show (match iQ keep sh0 sh (aI (aE .any l t)),kF keep sh0 l m sh rs with | some v,some vs=>some (v :: vs) | _,_=>none)=_
  cases iQ keep sh0 sh (aI (aE .any l t))<;>cases kF keep sh0 l m sh rs<;>rfl
 | .cell t agg n :: rs=>by
  simp only[eQ,kF,vD keep sh0 rs];have h1:uX (ST l m sh) (.cell t agg n)=zO agg n m sh (aE .any l t):=by
   simp only[uX,U7]
   cases aE AV.any l t<;>rfl
  rw[h1];show (match (zO agg n m sh (aE .any l t)).bind (iQ keep sh0 sh),kF keep sh0 l m sh rs with | some v,some vs=>some (v :: vs) | _,_=>none)=_
  cases (zO agg n m sh (aE .any l t)).bind (iQ keep sh0 sh)<;>cases kF keep sh0 l m sh rs<;>rfl
def KL:List AV->AV
 | [v]=>v
 | vs=>.tup vs
@[go_sem] theorem zBB (v:AV):KL [v]=v:=(rfl)
@[go_sem] theorem zBC:KL []=.tup []:=(rfl)
@[go_sem] theorem ZE (v u:AV) (r:List AV):KL (v :: u :: r)=.tup (v :: u :: r):=(rfl)
def y9 (k:Bool) (vs:List AV):Bool:=vs.all (lP k)
@[go_sem] theorem Z6 (k:Bool):y9 k []=true:=(rfl)
@[go_sem] theorem WH (k:Bool) (v:AV) (vs:List AV):y9 k (v :: vs)=(lP k v && y9 k vs):=(rfl)
def eY (keep:Bool) (n0:Nat) (sh:LL):Bool:=keep || (sh.take n0).all fun c=>c.all (iN n0)
@[go_sem] theorem T5 (n0:Nat):eY true n0 sh=true:=(rfl)
@[go_sem] theorem T4:eY false 0 sh=true:=(rfl)
def L9 (keep:Bool) (n0:Nat) (sh:LL):Option (List AV)->Option (AV × LL)
 | some vs=>if y9 keep vs=true/\eY keep n0 sh=true then some (KL vs,if keep then sh else sh.take n0) else none
 | none=>none
@[go_sem] theorem WA (keep:Bool) (n0:Nat) (vs:List AV):L9 keep n0 sh (some vs)=if y9 keep vs=true/\eY keep n0 sh=true then some (KL vs,if keep then sh else sh.take n0) else none:=(rfl)
@[go_sem] theorem zCR (keep:Bool) (sh0:LL) (res:List ARes):GT keep sh0 res (ST l m sh)=L9 keep sh0.length sh (kF keep sh0 l m sh res):=by
 unfold GT;rw[vD]
 cases kF keep sh0 l m sh res with
 | none=>rfl
 | some vs =>
  show rZ keep sh0.length vs sh=_;unfold rZ L9 y9 eY;simp only[Bool.or_eq_true];rfl
@[go_sem] theorem zEK (keep:Bool) (sh0:LL) (k:IntKind) (n:Int):iQ keep sh0 sh (.int k n)=some (.int k n):=(rfl)
@[go_sem] theorem zAF (keep:Bool) (sh0:LL) (b:Bool):iQ keep sh0 sh (.bool b)=some (.bool b):=(rfl)
@[go_sem] theorem zEI (keep:Bool) (sh0:LL) (s:List UInt8):iQ keep sh0 sh (.str s)=some (.str s):=(rfl)
@[go_sem] theorem zHS (keep:Bool) (sh0:LL) (o:Own) (z:Nat) (x:LL):iQ keep sh0 sh (.sl o z x)=some (.sl o z x):=(rfl)
@[go_sem] theorem zEL (keep:Bool) (sh0:LL) (x:List AV):iQ keep sh0 sh (.agg x)=some (.agg x):=(rfl)
@[go_sem] theorem zEJ (keep:Bool) (sh0:LL) (a b:Nat):iQ keep sh0 sh (.ptr a b)=some (.ptr a b):=(rfl)
@[go_sem] theorem zAE (sh0:LL) (o off n z:Nat):iQ true sh0 sh (.ss o off n z)=some (.ss o off n z):=(rfl)
@[go_sem] theorem zHR (sh0:LL) (o off n z:Nat):iQ false sh0 sh (.ss o off n z)=if sh0.length<=o/\eP sh0 sh=true then lN sh (.ss o off n z) else none:=(rfl)
@[go_sem] theorem zGP (p:Bool) (a b c d:Nat):lP p (.ss a b c d)=p:=(rfl)
@[go_sem] theorem zCU (p:Bool) (k:IntKind) (n:Int):lP p (.int k n)=true:=(rfl)
@[go_sem] theorem Z3 (p b:Bool):lP p (.bool b)=true:=(rfl)
@[go_sem] theorem zCS (p:Bool) (s:List UInt8):lP p (.str s)=true:=(rfl)
@[go_sem] theorem zCT (p:Bool) (a b:Nat):lP p (.ptr a b)=p:=(rfl)
@[go_sem] theorem zGQ (p:Bool) (o:Own) (z:Nat) (x:LL):lP p (.sl o z x)=true:=(rfl)
@[go_sem] theorem zCV (p:Bool) (x:List AV):lP p (.agg x)=true:=(rfl)
theorem aA {B:aO} {T:FuncId->Option AFun} {f:FuncId} (F:AFun) {args:List AV} {sh:LL} {r:AV × LL} (hB:B f args sh=none) (hT:T f=some F) (hn:args.length=F.nargs)
  (h:JY F.keep sh F.res (aC (Gx B T) F.body (ST (u9 0 args) [] sh))=some r):Gx B T f args sh=some r:=by
 letI:=KT
 refine zGF hB hT ?_;rw[N5 _ _ _ hn];exact h
end
end Go.Av
namespace Go.Av
variable {G:aO} {l:List (Nat × AV)} {m:List (Nat × Option (List AV))} {sh:LL}
noncomputable def uK (G:aO) (L:ACode) (kill:List Nat) (r:Option (AX × AS)):Option (AX × AS):=match r with
 | some (.norm,σ')=>aC G L (forget kill σ')
 | r=>r
theorem CA (a:List Nat) (v:AV):b9 a (b9 a v)=b9 a v:=by
 cases v with
 | loc s o=>by_cases h:s∈a<;>simp [b9,h]
 | _=>rfl
theorem DC (kill:List Nat) (σ:AS):forget kill (forget kill σ)=forget kill σ:=by
 unfold forget;simp only[AS.mk.injEq,and_true];refine⟨?_,?_⟩
 ·funext t
  by_cases h:t∈kill
  ·simp [h]
  ·simp [h,CA]
 ·funext t
  by_cases h:t∈kill<;>simp [h]
theorem aB {L:ACode} {kill:List Nat} {a:ACode} (h:L=.loop kill a) (l:List (Nat × AV)) (m:List (Nat × Option (List AV))) (sh:LL) :
  aC G L (ST l m sh)=uK G L kill (aC G a (ST (j6 kill l) (i8 kill m) sh)):=by
 subst h;rw[Y1];have hf:∀ σ,aC G (.loop kill a) σ=aC G (.loop kill a) (forget kill σ):=by
  intro σ;show xF (fun σ=>aC G a (forget kill σ)) σ=xF (fun σ=>aC G a (forget kill σ)) (forget kill σ);rw[@xE KT,@xE KT _ (forget kill σ)];simp only[DC]
 cases aC G a (ST (j6 kill l) (i8 kill m) sh) with
 | none=>rfl
 | some r =>
  obtain⟨x,σ⟩:=r
  cases x with
  | norm=>exact hf σ
  | _=>rfl
@[go_sem] theorem WP (L:ACode) (kill:List Nat) (l:List (Nat × AV)) (m:List (Nat × Option (List AV))) (sh:LL):uK G L kill (some (.norm,ST l m sh))=aC G L (ST (j6 kill l) (i8 kill m) sh):=by
 rw[<- t8];rfl
@[go_sem] theorem zDJ (L:ACode) (kill:List Nat) (i:Nat) (σ:AS):uK G L kill (some (.ex i,σ))=some (.ex i,σ):=(rfl)
@[go_sem] theorem Z8 (L:ACode) (kill:List Nat) (σ:AS):uK G L kill (some (.ret,σ))=some (.ret,σ):=(rfl)
@[go_sem] theorem WQ (L:ACode) (kill:List Nat):uK G L kill none=none:=(rfl)
@[go_sem] theorem Z9 (L:ACode) (kill:List Nat) (c:Prop) [Decidable c] (x y:Option (AX × AS)):uK G L kill (if c then x else y)=if c then uK G L kill x else uK G L kill y:=by split<;>rfl
@[go_sem] theorem RT:(none:Option (List AV)).isNone=true:=(rfl)
def H9:Option (List AV)->Option LL->Option LL
 | some r,some rs=>some (r :: rs)
 | _,_=>none
def fA (z:Nat):List AV->Option LL
 | []=>some []
 | x :: xs=>H9 (cF z x) (fA z xs)
@[go_sem] theorem WN (z:Nat):fA z []=some []:=(rfl)
@[go_sem] theorem UG (z:Nat) (x:AV) (xs:List AV):fA z (x :: xs)=H9 (cF z x) (fA z xs):=(rfl)
@[go_sem] theorem YH (r:List AV) (rs:LL):H9 (some r) (some rs)=some (r :: rs):=(rfl)
theorem sX {n:Nat} {x:AV} {cs:List AV} (h:cF n x=some cs):cs.length=n:=by
 unfold cF at h
 split at h
 ·split at h
  ·cases h;assumption
  ·cases h
 ·split at h
  ·cases h;rename_i h1;simp [h1.1]
  ·cases h
theorem wY {z:Nat}:∀ {xs:List AV} {rs:LL},fA z xs=some rs->rs.length=xs.length/\∀ r∈rs,r.length=z
 | [],rs,h=>by cases h;simp
 | x :: xs,rs,h=>by
  simp only[fA] at h;cases h1:cF z x with
  | none=>rw[h1] at h;cases h
  | some r =>
   cases h2:fA z xs with
   | none=>rw[h1,h2] at h;cases h
   | some rs' =>
    rw[h1,h2] at h;cases h
    have:=wY h2
    have h3:=sX h1;simp only[length_cons,this.1,true_and,mem_cons,forall_eq_or_imp];exact⟨h3,this.2⟩
theorem rS (z:Nat):∀ (rs:LL),(∀ r∈rs,r.length=z)->dV z rs.length rs.flatten=rs
 | [],_=>rfl
 | r :: rs,h=>by
  have h1:=h r (by simp);have h2:=rS z rs (fun r hr=>h r (by simp [hr]));show ((r :: rs).flatten).take z :: dV z rs.length (((r :: rs).flatten).drop z)=_;rw[flatten_cons,take_left' h1,drop_left' h1,h2]
theorem uO {z:Nat} {zero:List AV} (hz:zero.length=z):∀ (xs:List AV) (pre:List AV) (k:Nat),pre.length=k*z ->
  fX (pre++b8 zero xs.length) ((List.range' k xs.length).map fun i=>(i*z,z)) xs=(fA z xs).map fun rs=>pre++rs.flatten
 | [],pre,k,h=>by simp [fX,fA,b8]
 | x :: xs,pre,k,h=>by
  simp only[length_cons,range'_succ,map_cons,fX,fA];cases h1:cF z x with
  | none=>cases h3:fA z xs<;>rfl
  | some cs =>
   have hc:=sX h1;have h2:gX (k*z) cs (pre++b8 zero (xs.length+1))=some ((pre++cs)++b8 zero xs.length):=by
    rw[show b8 zero (xs.length+1)=zero++b8 zero xs.length from rfl];unfold gX;rw[if_pos (by simp only[length_append];omega)];rw[take_left' h,<- append_assoc pre zero,drop_left' (by simp [hc,h,hz])]
   simp only[h2];rw[uO hz xs (pre++cs) (k+1) (by simp [h,hc,Nat.add_mul])]
   cases fA z xs with
   | none=>rfl
   | some rs=>simp [H9]
theorem lQ {z:Nat} {zero:List AV} {len:Nat} {pl:List Nat} {xs:List AV} (hz:zero.length=z) (hl:xs.length=len) (hp:pl=List.range' 0 len) :
  iE z zero len pl xs=(fA z xs).map fun rs=>.sl .full z rs:=by
 subst hl;subst hp;unfold iE;rw[show b8 zero xs.length=[]++b8 zero xs.length from rfl,uO hz xs [] 0 (by simp)];cases h:fA z xs with
 | none=>rfl
 | some rs =>
  have:=wY h
  simp only[Option.map_some,nil_append];rw[<- this.1,rS z rs this.2]
@[go_sem] theorem zHK (c0 x0:AV):iE 1 [c0] 1 [0] [x0]=(fA 1 [x0]).map fun rs=>.sl .full 1 rs:=lQ rfl rfl rfl
@[go_sem] theorem zHJ (c0 x0 x1:AV):iE 1 [c0] 2 [0,1] [x0,x1]=(fA 1 [x0,x1]).map fun rs=>.sl .full 1 rs:=lQ rfl rfl rfl
@[go_sem] theorem zHI (c0 x0 x1 x2 x3 x4:AV):iE 1 [c0] 5 [0,1,2,3,4] [x0,x1,x2,x3,x4]=(fA 1 [x0,x1,x2,x3,x4]).map fun rs=>.sl .full 1 rs:=lQ rfl rfl rfl
@[go_sem] theorem zHH (c0 x0 x1 x2 x3 x4 x5:AV):iE 1 [c0] 6 [0,1,2,3,4,5] [x0,x1,x2,x3,x4,x5]=(fA 1 [x0,x1,x2,x3,x4,x5]).map fun rs=>.sl .full 1 rs:=lQ rfl rfl rfl
@[go_sem] theorem zHG (c0 c1 c2 x0:AV):iE 3 [c0,c1,c2] 1 [0] [x0]=(fA 3 [x0]).map fun rs=>.sl .full 3 rs:=lQ rfl rfl rfl
theorem bU {bytes n:Nat} (h1:bytes<=100000) (h2:n<=1000000000):cU bytes n=true:=by
 have:n*bytes<=1000000000*100000:=Nat.mul_le_mul h2 h1
 simp only[cU,decide_eq_true_eq];omega
theorem dP (md o:Own) (hm:md≠.no) (z bytes:Nat) (hz:0 < z) (x y:LL) :
  jL false z bytes (.sl md z x) (.sl o z y)=if cU bytes (x.length+y.length)=true then some (.sl .own z (x++y)) else none:=by
 simp [jL,jW,cU,hm,hz]
def NO (cells:Option (List AV)) (pl:List (Nat × Nat)) (xs:List AV):Option (List AV):=cells.bind fun c=>fX c pl xs
@[go_sem] theorem zAL (cells:List AV):fX cells [] []=some cells:=(rfl)
@[go_sem] theorem X8 (cells:List AV) (off n:Nat) (pl:List (Nat × Nat)) (x:AV) (xs:List AV):fX cells ((off,n) :: pl) (x :: xs)=NO ((cF n x).bind fun cs=>gX off cs cells) pl xs:=by
 simp only[fX,NO]
 cases cF n x with
 | none=>rfl
 | some cs=>simp only[Option.bind_some];cases gX off cs cells<;>rfl
@[go_sem] theorem X6 (c:List AV) (pl:List (Nat × Nat)) (xs:List AV):NO (some c) pl xs=fX c pl xs:=(rfl)
def FF (cells:Option (List AV)) (pl:List (Nat × Nat)) (xs:List AV):Option (List AV):=cells.bind fun c=>nN c pl xs
@[go_sem] theorem zAK (cells:List AV):nN cells [] []=some cells:=(rfl)
@[go_sem] theorem X7 (cells:List AV) (off n:Nat) (pl:List (Nat × Nat)) (x:AV) (xs:List AV):nN cells ((off,n) :: pl) (x :: xs)=FF ((dM n x).bind fun cs=>gX off cs cells) pl xs:=by
 simp only[nN,FF]
 cases dM n x with
 | none=>rfl
 | some cs=>simp only[Option.bind_some];cases gX off cs cells<;>rfl
@[go_sem] theorem US (c:List AV) (pl:List (Nat × Nat)) (xs:List AV):FF (some c) pl xs=nN c pl xs:=(rfl)
def lC:Nat->List AV->List AV->Option (List AV)
 | _,[],cells=>some cells
 | _,_ :: _,[]=>none
 | 0,c :: cs,_ :: r=>(lC 0 cs r).map fun t=>c :: t
 | n+1,c :: cs,x :: r=>(lC n (c :: cs) r).map fun t=>x :: t
theorem EQ:∀ (n:Nat) (cs cells:List AV),cs≠[]->gX n cs cells=lC n cs cells
 | _,[],_,h=>absurd rfl h
 | n,c :: cs,[],_=>by simp [gX,lC]
 | 0,[c],x :: r,_=>by simp [gX,lC]
 | 0,c :: c2 :: cs,x :: r,_=>by
  have:=EQ 0 (c2 :: cs) r (by simp)
  simp only[lC];rw[<- this];unfold gX;simp only[length_cons,Nat.zero_add,take_zero,nil_append,Nat.add_le_add_iff_right]
  split<;>simp
 | n+1,c :: cs,x :: r,_=>by
  have:=EQ n (c :: cs) r (by simp)
  simp only[lC];rw[<- this];unfold gX;simp only[length_cons];by_cases h:n+(cs.length+1)<=r.length
  ·rw[if_pos h,if_pos (by omega)]
   simp [show n+1+(cs.length+1)=n+(cs.length+1)+1 by omega]
  ·rw[if_neg h,if_neg (by omega)];rfl
@[go_sem] theorem zCQ (n:Nat) (c:AV) (cs cells:List AV):gX n (c :: cs) cells=lC n (c :: cs) cells:=EQ _ _ _ (by simp)
@[go_sem] theorem LV (n:Nat) (cells:List AV):lC n [] cells=some cells:=by cases n<;>simp [lC]
@[go_sem] theorem V8 (c x:AV) (cs r:List AV):lC 0 (c :: cs) (x :: r)=(lC 0 cs r).map fun t=>c :: t:=(rfl)
@[go_sem] theorem LU (n:Nat) (c x:AV) (cs r:List AV):lC (n+1) (c :: cs) (x :: r)=(lC n (c :: cs) r).map fun t=>x :: t:=(rfl)
def NU:Own->Own
 | .own=>.no
 | o=>o
@[go_sem] theorem zFD:NU .own=.no:=(rfl)
@[go_sem] theorem zIE:NU .no=.no:=(rfl)
@[go_sem] theorem zAP:NU .full=.full:=(rfl)
theorem m9 (o:Own) (z:Nat) (x:LL):aI (.sl o z x)=.sl (NU o) z x:=by cases o<;>rfl
def mdK (o:Own):Nat->Own
 | 0=>o
 | _+1=>.own
theorem jN {n:Int} (h:0<=n):zC n=some n.toNat:=by simp [zC,h]
@[go_sem] theorem zGM (md:Own) (z:Nat) (x:LL) (k:IntKind) (n:Int) (h:0<=n) (h2:n<=(x.length:Int)):bO false z (.sl md z x) none (some (.int k n))=some (.sl .no z (x.take n.toNat)):=by
 simp only[bO,dZ,jN h];rw[if_pos ⟨by omega,by omega,.inl trivial⟩];simp
@[go_sem] theorem zGL (md:Own) (z:Nat) (x:LL) (k:IntKind) (n:Int) (h:0<=n) (h2:n<=(x.length:Int)):bO false z (.sl md z x) (some (.int k n)) none=some (.sl .no z (x.drop n.toNat)):=by
 simp only[bO,dZ,jN h];rw[if_pos ⟨by omega,by omega,.inl trivial⟩];simp
@[go_sem] theorem pJ (z:Nat) (x:List UInt8) (k:IntKind) (n:Int) (h:0<=n) (h2:n<=(x.length:Int)):bO true z (.str x) none (some (.int k n))=some (.str (x.take n.toNat)):=by
 simp only[bO,dZ,jN h];rw[if_pos ⟨by omega,by omega⟩];simp
@[go_sem] theorem kK (z:Nat) (x:List UInt8) (k:IntKind) (n:Int) (h:0<=n) (h2:n<=(x.length:Int)):bO true z (.str x) (some (.int k n)) none=some (.str (x.drop n.toNat)):=by
 simp only[bO,dZ,jN h];rw[if_pos ⟨by omega,by omega⟩];simp
@[go_sem] theorem pK (z:Nat) (x:List UInt8) (k k':IntKind) (n j:Int) (h:0<=n) (h1:n<=j) (h2:j<=(x.length:Int)):bO true z (.str x) (some (.int k n)) (some (.int k' j))=some (.str ((x.take j.toNat).drop n.toNat)):=by
 simp only[bO,dZ,jN h,jN (Int.le_trans h h1)];rw[if_pos ⟨by omega,by omega⟩]
theorem w64 {n:Int} (h1:-9223372036854775808<=n) (h2:n<=9223372036854775807):IntKind.i64.wrap n=n:=IntWalk.i64_in n ⟨h1,h2⟩
end Go.Av
namespace Go.Av
variable [Gtab]
open Go.ChangeShapes Go.WideShapes Go.ChangeAt Go.RowKit
section
variable {H:Type} {enc:TypeId × Value->H} {P:Program}
theorem qJ {W W':World} {sp:Nat->Bool} (hl:laidOutB P=true) (hb:Below W.heap.size W W') :
  ∀ {ts:List TypeId} {vs:List Value} {ds:List (DataW H)} {ps:List MemPlace},(ts.all fun t=>P.readableRec t && decide (t < P.types.size))=true ->
  DataW.TrodAll enc P W 0 (fun _=>true) true ts vs ds ps->(∀ p∈ps,p.block < W.heap.size)->(∀ p∈ps,sp p.block=true)->DataW.TrodAll enc P W' 0 sp true ts vs ds ps
 | [],_,_,_,_,h,_,_=>by
  obtain⟨rfl,rfl,rfl⟩:=trodAll_nil h;exact trodAll_mk0
 | t :: ts,_,_,_,ha,h,hlt,hs=>by
  obtain⟨v,vs,d,ds,p,q,rfl,rfl,rfl,h1,h2⟩:=trodAll_cons h;simp only[all_cons,Bool.and_eq_true,decide_eq_true_eq] at ha;refine⟨p,q,?_,?_,rfl⟩
  ·exact WideElems.Trod_stays hl ha.1.1 ha.1.2 h1 (fun x hx=>hb.same (hlt x (by simp [hx]))) (fun x hx=>hs x (by simp [hx]))
  ·exact qJ hl hb ha.2 h2 (fun x hx=>hlt x (by simp [hx])) (fun x hx=>hs x (by simp [hx]))
theorem ER {f:Func} {s:ChangeSpec} {apart fresh handsOn again:Bool} {W W':World} {args:Array Value} {v:Value} {ds gs:List (DataW H)} {before pa pv:List MemPlace}
  (hW:DataW.Whole enc P f.params.toList s.vars apart W args.toList ds gs before)
  (hres:∀ (b:Nat) (sp:Nat->Bool) (hd:Bool),DataW.TrodAll enc P W' b sp hd f.resultTypes.toList (v.resultList f.resultTypes.size) (s.fn H (ds++gs)).results [])
  (hargs:∀ sp:Nat->Bool,(∀ p∈before,sp p.block=true)->DataW.TrodAll enc P W' 0 sp true f.params.toList args.toList (s.fn H (ds++gs)).args pa)
  (hvars:∀ sp:Nat->Bool,(∀ p∈before,sp p.block=true)->DataW.TrodVars enc P W' sp s.vars (s.fn H (ds++gs)).vars pv)
  (hps:before=pa++pv) (hb:Below W.heap.size W W')
  (hok:∀ (j:Nat) (t:TypeId) (r:Value),f.resultTypes[j]?=some t->(v.resultList f.resultTypes.size)[j]?=some r->Value.okWide P W' .any 0 t r) :
  s.post enc P f apart fresh handsOn again W args v W':=by
 have hold:∀ p∈before,(fun b=>decide (b < W.heap.size)) p.block=true:=fun p hp=>by simpa using hW.lt p hp
 refine⟨ds,gs,before,[],pa,pv,hW,hres _ _ _,hargs _ hold,hvars _ hold,World.keptBut_mono (fun p hp=>⟨hp,?_⟩) (hb.frame (·∈before)),fun _=>?_⟩
 ·rw[hps,mem_append] at hp
  exact Or.inr hp
 ·have hW2:=hW
  obtain⟨_,_,_,_,_,hz,hn⟩:=hW;refine⟨hok,_,_,([]++pa)++pv,⟨[]++pa,pv,trodAll_append (hargs _ (fun _ _=>rfl)) (hres _ _ _),hvars _ (fun _ _=>rfl),rfl,?_,?_⟩,?_⟩
  ·intro b off hp
   have hp':MemPlace.cell b off∈before:=by rw[hps];simpa using hp
   rw[hb.frozen (p:=⟨b,off,none⟩) (hW2.lt _ hp')];exact hz b off hp'
  ·intro ha
   have:=hn ha
   rw[hps] at this;simpa using this
  ·intro p hp _
   rw[hps];simpa using hp
theorem C4 {f:Func} {n:Nat} {s:ChangeSpec} {W:World} {args:Array Value} {ds gs:List (DataW H)} {before:List MemPlace} {apart fresh handsOn again:Bool} {tb:TypeId} {G:aO} {avs:List AV}
  (hW:DataW.Whole enc P f.params.toList s.vars apart W args.toList ds gs before) (hv:s.vars=[]) (hl:laidOutB P=true)
  (hpar:(f.params.toList.all fun t=>P.readableRec t && decide (t < P.types.size))=true) (hrt:f.resultTypes=#[tb]) (htb:P.underlying tb=some .bool)
  (hG:iA P G) (hrep:aL (aQ (cx0 (fun _=>0) (fun _=>0) (fun b _=>b < W.heap.size) W 0) aS) avs args.toList)
  (hg:G n avs []=some (.bool true,[])) (hfn:s.fn H ds={ results:=[.lit (.bool true)],args:=ds }) (hreal:yM P n) (hgl:lM (fun b _=>b < W.heap.size) W) :
  Calls P n args W fun e W'=>∃ v,e=.returned v/\s.post enc P f apart fresh handsOn again W args v W':=by
 have hsem:iJ P n avs [] (.bool true) []:=by
  rcases hG _ _ _ _ _ hg with h | hx
  ·exact h.2
  ·intro kd β bs S0 O0 w vs he hr
   obtain⟨v,w',_,_,_,hrn,_⟩:=hx kd β bs S0 O0 w vs he hr;rw[iI hreal] at hrn;cases hrn
 have hS:=hsem (fun _=>.stab) (fun _=>0) (fun _=>0) (fun b _=>b < W.heap.size) (fun _=>none) W args (X9 (fun b n hb=>hb) hgl) hrep;refine hS.mono ?_
 rintro e W' ⟨v,kd',β',bs',rfl,ha⟩
 have hr:=ha.rep;have hv':v=.bool true:=by simpa [aQ,aR,aF] using hr
 subst hv';have hb:Below W.heap.size W W':=⟨ha.os,ha.tape,ha.output,ha.size,fun k hk=>ha.frame k hk (fun i hi=>by simp at hi) rfl⟩
 refine⟨_,rfl,?_⟩;have hW2:=hW;obtain⟨p,q,hA,hV,hpq,_,_⟩:=hW2;rw[hv] at hV;obtain⟨rfl,rfl⟩:=trodVars_none hV;rw[append_nil] at hpq;subst hpq;have e1:(s.fn H (ds++[])).results=[.lit (.bool true)]:=by rw[append_nil,hfn]
 have e2:(s.fn H (ds++[])).args=ds:=by rw[append_nil,hfn]
 have e3:(s.fn H (ds++[])).vars=[]:=by rw[append_nil,hfn]
 have hsz:f.resultTypes.size=1:=by rw[hrt];rfl
 refine ER (pa:=before) (pv:=[]) hW ?_ ?_ ?_ (by simp) hb ?_
 ·intro b sp hd
  rw[e1,hsz,hrt];exact trodAll_cons_mk (shut_bool htb true) trodAll_mk0
 ·intro sp hsp
  rw[e2];exact qJ hl hb hpar hA (fun p hp=>hW.lt p hp) hsp
 ·intro sp _
  rw[hv,e3];exact rfl
 ·exact ok_one hrt rfl (okWide_bool_mk htb true)
variable {w:World} {base:Nat} {spare:Nat->Bool} {held:Bool}
theorem AJ {a:Addr} {u:Value} (h:w.cell? a=some u):a.spot=none:=by
 unfold World.cell? at h
 split at h
 ·split at h
  ·cases h
  ·rename_i hs;simpa using hs
 ·cases h
theorem CC {S:Nat->Nat->Prop} {k:IntKind} (b:Nat):∀ (l:List Int) (o:Nat),(∀ i,i < l.length->S b (o+i)/\w.cell? ⟨b,o+i,none⟩=some (.int k (l.getD i 0)))->gH S w 1 (l.map fun x=>[.int k x]) b o
 | [],o,_=>by simp [gH]
 | x :: l,o,h=>by
  have h0:=h 0 (by simp);simp only[map_cons,gH,eI,length_cons,length_nil,Nat.zero_add,and_true,true_and];refine⟨⟨h0.1,_,h0.2,rfl⟩,?_⟩;exact CC b l (o+1) fun i hi=>by
   have:=h (i+1) (by simp;omega)
   rw[show o+1+i=o+(i+1) by omega];simpa using this
theorem rT {r:Reach} {b0 n:Nat} {t e:TypeId} {k:IntKind} {v:Value} {d:DataW H} {ps:List MemPlace} {ow:Value->Nat->Nat->Prop} (ht:P.underlying t=some (.slice e)) (he:P.underlying e=some (.int k)) (hc:P.cellsOf e=1)
  (hval:Value.okWide P w r b0 t v) (hd:DataW.Trod enc P w base spare held t v d ps) :
  ∃ l:List Int,aQ (cx0 (fun _=>0) (fun _=>0) (fun b _=>b < w.heap.size) w n) ow (.sl .no 1 (l.map fun x=>[.int k x])) v:=by
 obtain⟨a0,len,cap,rfl⟩:=okWide_slice ht hval;obtain⟨fuel,hf⟩:=hd;rcases open_ints ht he hc hf with ⟨hcs,hx⟩ | ⟨a,len',cap',zs,hcs,_,hl,hm,hz,hx,hcell,hwz⟩
 ·simp [Value.cells] at hcs
  obtain⟨rfl,rfl,rfl⟩:=hcs;refine⟨[],?_⟩;simp only[aQ,aR,aF];exact⟨none,0,rfl,Nat.le_refl _,by simp,by simp,.inl rfl⟩
 ·simp [Value.cells] at hcs
  obtain⟨rfl,rfl,rfl⟩:=hcs;have hlen:len<=zs.length:=by rw[hz];split<;>omega
  refine⟨zs.take len,?_⟩;simp only[aQ,aR,aF];have hl2:((zs.take len).map fun x=>([.int k x]:List AV)).length=len:=by simp;omega
  refine⟨some a,cap,by rw[hl2],by rw[hl2];omega,by simp,by simp,?_⟩;by_cases h0:len=0
  ·left;subst h0;simp
  ·right
   have c0:=hcell 0 (by omega);have hsp:a.spot=none:=AJ (by simpa [Addr.add] using c0);obtain⟨b,o,sp⟩:=a;simp only at hsp;subst hsp;refine⟨b,o,rfl,CC b _ _ fun i hi=>?_⟩;have hi':i < len:=by simpa [Nat.lt_min] using (show i < (zs.take len).length from hi) |> fun h=>by simp at h;omega
   have ci:=hcell i (by omega);have e1:(⟨b,o,none⟩:Addr).add i=⟨b,o+i,none⟩:=by
    unfold Addr.add;split
    ·rename_i h;subst h;rfl
    ·rfl
   rw[e1] at ci;refine⟨World.block_lt_of_cell? w _ ci,?_⟩;show w.cell? _=_;rw[ci];simp [getD_eq_getElem?_getD,hi']
end
end Go.Av
