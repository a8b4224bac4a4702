/- A part of the frame (Ev19 Ev20 Ev21 Ev22 Ev27 Ev28 Ev29). No conditions. -/
import Derived.Test.YtgbjlnijjonidaaDoorG1Ev14to18
import Derived.Attr
import Derived.IntWalk
import Derived.WalkKit
import Derived.ProofKit
import Derived.OpenShut
import Derived.Below
import Derived.Carry
import Derived.Lib.SmallJoins
import Derived.Lib.Bytealg
open List
set_option linter.unusedSimpArgs false
set_option linter.unusedVariables false
set_option linter.unusedSectionVars false
set_option maxRecDepth 100000
set_option maxHeartbeats 16000000
namespace Go.Av
section
variable {G:aK} {l:List (Nat × AV)} {m:List (Nat × Option (List AV))} {sh:LL}
@[go_sem] theorem RZ {α:Type} (d:α) (t:Nat):aE d [] t=d:=(rfl)
@[go_sem] theorem PF {α:Type} (d:α) (k:Nat) (v:α) (r:List (Nat × α)) (t:Nat):aE d ((k,v) :: r) t=if t=k then v else aE d r t:=(rfl)
@[go_sem] theorem QP {α:Type} (k:Nat) (v:α):dJ [] k v=[(k,v)]:=(rfl)
@[go_sem] theorem OL {α:Type} (k k':Nat) (v v':α) (r:List (Nat × α)):dJ ((k',v') :: r) k v=if k=k' then (k,v) :: r else if k < k' then (k,v) :: (k',v') :: r else (k',v') :: dJ r k v:=(rfl)
@[go_sem] theorem PI (kill:List Nat):f8 kill []=[]:=(rfl)
@[go_sem] theorem NC (kill:List Nat) (k:Nat) (v:AV) (r:List (Nat × AV)):f8 kill ((k,v) :: r)=if k∈kill then f8 kill r else (k,aQ kill v) :: f8 kill r:=(rfl)
@[go_sem] theorem PQ {α:Type} (kill:List Nat):fF kill ([]:List (Nat × α))=[]:=(rfl)
@[go_sem] theorem NU {α:Type} (kill:List Nat) (k:Nat) (v:α) (r:List (Nat × α)):fF kill ((k,v) :: r)=if k∈kill then fF kill r else (k,v) :: fF kill r:=(rfl)
@[go_sem] theorem QS (kill:List Nat):s5 kill []=[]:=(rfl)
@[go_sem] theorem OT (kill:List Nat) (k:Nat) (v:AV) (r:List (Nat × AV)):s5 kill ((k,v) :: r)=(k,aQ kill v) :: s5 kill r:=(rfl)
@[go_sem] theorem TS (k:Nat):rG k []=[]:=(rfl)
@[go_sem] theorem PY (k:Nat) (a:AV) (as:List AV):rG k (a :: as)=(k,a) :: rG (k+1) as:=(rfl)
attribute [go_sem] reduceCtorEq Nat.not_lt_zero Nat.lt_one_iff mem_cons not_mem_nil or_false or_true or_self false_or true_or if_true if_false
@[go_sem] theorem S5 (k:IntKind) (n:Int):aH (.int k n)=.int k n:=(rfl)
@[go_sem] theorem PR (b:Bool):aH (.bool b)=.bool b:=(rfl)
@[go_sem] theorem S3 (s:List UInt8):aH (.str s)=.str s:=(rfl)
@[go_sem] theorem S4 (o i:Nat):aH (.ptr o i)=.ptr o i:=(rfl)
@[go_sem] theorem S2 (x:List AV):aH (.tup x)=.tup x:=(rfl)
@[go_sem] theorem U5 (o i n z:Nat):aH (.ss o i n z)=.ss o i n z:=(rfl)
@[go_sem] theorem U6 (o:Nat):aH (.mp o)=.mp o:=(rfl)
@[go_sem] theorem U7 (f:FuncId) (x:List AV):aH (.fn f x)=.fn f x:=(rfl)
@[go_sem] theorem QE (k:IntKind) (n:Int):dR (.int k n)=.int k n:=(rfl)
@[go_sem] theorem OK (b:Bool):dR (.bool b)=.bool b:=(rfl)
@[go_sem] theorem QD (s:List UInt8):dR (.str s)=.str s:=(rfl)
@[go_sem] theorem QF (x:List AV):dR (.agg x)=.agg x:=(rfl)
@[go_sem] theorem T5 (o i n z:Nat):dR (.ss o i n z)=.ss o i n z:=(rfl)
@[go_sem] theorem T6 (f:FuncId) (x:List AV):dR (.fn f x)=.fn f x:=(rfl)
@[go_sem] theorem sW (o:Own) (z:Nat) (x:LL):dR (.sl o z x)=.sl .no z x:=(rfl)
@[go_sem] theorem JV (n:Nat) (x:List AV):bD n (.agg x)=if x.length=n then some x else none:=(rfl)
@[go_sem] theorem JU (k:IntKind) (i:Int):bD 1 (.int k i)=some [.int k i]:=(rfl)
@[go_sem] theorem JS (s:List UInt8):bD 1 (.str s)=some [.str s]:=(rfl)
@[go_sem] theorem JT (z:Nat) (x:LL):bD 1 (.sl .no z x)=some [.sl .no z x]:=(rfl)
@[go_sem] theorem JX (n:Nat) (x:List AV):cX n (.agg x)=if x.length=n then some x else none:=(rfl)
@[go_sem] theorem JW (k:IntKind) (i:Int):cX 1 (.int k i)=some [.int k i]:=(rfl)
@[go_sem] theorem K8 (a b c d:Nat):cX 1 (.ss a b c d)=some [.ss a b c d]:=(rfl)
@[go_sem] theorem MB (a:List Nat) (k:IntKind) (n:Int):aQ a (.int k n)=.int k n:=(rfl)
@[go_sem] theorem KM (a:List Nat) (b:Bool):aQ a (.bool b)=.bool b:=(rfl)
@[go_sem] theorem L8 (a:List Nat) (s:List UInt8):aQ a (.str s)=.str s:=(rfl)
@[go_sem] theorem L9 (a:List Nat) (o i:Nat):aQ a (.ptr o i)=.ptr o i:=(rfl)
@[go_sem] theorem MA (a:List Nat) (o i:Nat):aQ a (.loc o i)=if o∈a then .any else .loc o i:=(rfl)
@[go_sem] theorem MC (a:List Nat) (x:List AV):aQ a (.agg x)=.agg x:=(rfl)
@[go_sem] theorem OO (a:List Nat) (o i n z:Nat):aQ a (.ss o i n z)=.ss o i n z:=(rfl)
@[go_sem] theorem OQ (a:List Nat) (o:Nat):aQ a (.mp o)=.mp o:=(rfl)
@[go_sem] theorem OR (a:List Nat) (f:FuncId) (x:List AV):aQ a (.fn f x)=.fn f x:=(rfl)
@[go_sem] theorem OP (a:List Nat) (o:Own) (z:Nat) (x:LL):aQ a (.sl o z x)=.sl o z x:=(rfl)
noncomputable def uJ (G:aK) (r:Option (AX × AS)) (b:ACode):Option (AX × AS):=match r with
 | some (.norm,σ')=>aD G b σ'
 | r=>r
def jJ (id:Nat) (r:Option (AX × AS)):Option (AX × AS):=match r with
 | some (.ex i,σ')=>if i=id then some (.norm,σ') else some (.ex i,σ')
 | r=>r
def wY (kill:List Nat) (r:Option AS):Option (AX × AS):=r.map fun σ'=>(.norm,forget kill σ')
def BD (G:aK) (r:Option AS) (os:List AOper):Option AS:=r.bind (cC G os)
noncomputable def K7 (G:aK) (v:AV) (a b:ACode) (σ:AS):Option (AX × AS):=match v with
 | .bool t=>if t then aD G a σ else aD G b σ
 | _=>none
@[go_sem] theorem X9 (σ:AS):aD G .skip σ=some (.norm,σ):=(rfl)
@[go_sem] theorem YU (σ:AS):aD G .ret σ=some (.ret,σ):=(rfl)
@[go_sem] theorem YC (id:Nat) (σ:AS):aD G (.exit id) σ=some (.ex id,σ):=(rfl)
@[go_sem] theorem YT (a b:ACode) (σ:AS):aD G (.seq a b) σ=uJ G (aD G a σ) b:=(rfl)
@[go_sem] theorem VU (id:Nat) (a:ACode) (σ:AS):aD G (.block id a) σ=jJ id (aD G a σ):=(rfl)
@[go_sem] theorem YB (d:Bool) (ops:List AOper) (kill:List Nat) (σ:AS):aD G (.reg d [] ops kill) σ=wY kill (cC G ops σ):=by
 show (cC G ops (scrub [] σ)).map _=_;rw[BC];rfl
@[go_sem] theorem YA (d:Bool) (a:Nat) (al:List Nat) (ops:List AOper) (kill:List Nat):aD G (.reg d (a :: al) ops kill) (ST l m sh)=wY kill (cC G ops (ST (s5 (a :: al) l) (fF (a :: al) m) sh)):=by
 show (cC G ops (scrub (a :: al) _)).map _=_;rw[DC];rfl
@[go_sem] theorem YD (c:AR) (a b:ACode):aD G (.cond c a b) (ST l m sh)=K7 G (ev (aE .any l) c) a b (ST l m sh):=(rfl)
@[go_sem] theorem N2 (t:Bool) (a b:ACode) (σ:AS):K7 G (.bool t) a b σ=if t then aD G a σ else aD G b σ:=(rfl)
@[go_sem] theorem OM (σ:AS) (b:ACode):uJ G (some (.norm,σ)) b=aD G b σ:=(rfl)
@[go_sem] theorem UA (i:Nat) (σ:AS) (b:ACode):uJ G (some (.ex i,σ)) b=some (.ex i,σ):=(rfl)
@[go_sem] theorem QQ (σ:AS) (b:ACode):uJ G (some (.ret,σ)) b=some (.ret,σ):=(rfl)
@[go_sem] theorem ON (b:ACode):uJ G none b=none:=(rfl)
@[go_sem] theorem QR (c:Prop) [Decidable c] (x y:Option (AX × AS)) (b:ACode):uJ G (if c then x else y) b=if c then uJ G x b else uJ G y b:=by split<;>rfl
@[go_sem] theorem LE (id:Nat) (σ:AS):jJ id (some (.norm,σ))=some (.norm,σ):=(rfl)
@[go_sem] theorem OD (id:Nat) (σ:AS):jJ id (some (.ret,σ))=some (.ret,σ):=(rfl)
@[go_sem] theorem PX (id i:Nat) (σ:AS):jJ id (some (.ex i,σ))=if i=id then some (.norm,σ) else some (.ex i,σ):=(rfl)
@[go_sem] theorem LF (id:Nat):jJ id none=none:=(rfl)
@[go_sem] theorem OE (id:Nat) (c:Prop) [Decidable c] (x y:Option (AX × AS)):jJ id (if c then x else y)=if c then jJ id x else jJ id y:=by split<;>rfl
@[go_sem] theorem O7 (kill:List Nat):wY kill (some (ST l m sh))=some (.norm,ST (f8 kill l) (fF kill m) sh):=by
 show some (AX.norm,forget kill (ST l m sh))=_;rw[nF]
@[go_sem] theorem O8 (kill:List Nat):wY kill none=none:=(rfl)
@[go_sem] theorem Q5 (kill:List Nat) (c:Prop) [Decidable c] (x y:Option AS):wY kill (if c then x else y)=if c then wY kill x else wY kill y:=by split<;>rfl
@[go_sem] theorem QV (σ:AS):cC G [] σ=some σ:=(rfl)
@[go_sem] theorem OW (o:AOper) (os:List AOper) (σ:AS):cC G (o :: os) σ=BD G (bJ G o σ) os:=(rfl)
@[go_sem] theorem OU (σ:AS) (os:List AOper):BD G (some σ) os=cC G os σ:=(rfl)
@[go_sem] theorem OV (os:List AOper):BD G none os=none:=(rfl)
@[go_sem] theorem QU (c:Prop) [Decidable c] (x y:Option AS) (os:List AOper):BD G (if c then x else y) os=if c then BD G x os else BD G y os:=by split<;>rfl
noncomputable def RY (G:aK) (kill:List Nat) (a:ACode) (r:Option (AX × AS)):Option (AX × AS):=match r with
 | some (.norm,σ')=>aD G (.loop kill a) σ'
 | r=>r
theorem OH (kill:List Nat) (a:ACode):aD G (.loop kill a) (ST l m sh)=RY G kill a (aD G a (ST (f8 kill l) (fF kill m) sh)):=by
 rw[<- nF];show qE _ _=_;rw[@qD CN];rfl
def opX (G:aK) (dst:Option Nat) (k:AK) (args:List AR) (ml:ML) (dem:Option Nat) (σ:AS):Option AS:=
 match kf G (dst.getD 0) ml k (args.map (ev σ.fr)) (rdm σ ml) with
 | some (v,m)=>some (put (cI (wrm σ m ml) dem) dst v)
 | none=>none
def tN (G:aK) (g:AV) (want:Bool) (dst:Option Nat) (k:AK) (args:List AR) (ml:ML) (dem:Option Nat) (σ:AS):Option AS:=
 match g with
 | .bool b=>if b=want then opX G dst k args ml dem σ else some (put σ dst .undef)
 | .undef=>some (put σ dst .undef)
 | _=>none
@[go_sem] theorem L0 (dst:Option Nat) (k:AK) (args:List AR) (ml:ML) (dem:Option Nat) (σ:AS):bJ G ⟨dst,k,args,ml,dem,none⟩ σ=opX G dst k args ml dem σ:=(rfl)
@[go_sem] theorem L1 (dst:Option Nat) (k:AK) (args:List AR) (ml:ML) (dem:Option Nat) (s:Nat) (b:Bool):bJ G ⟨dst,k,args,ml,dem,some (s,b)⟩ (ST l m sh)=tN G (aE .any l s) b dst k args ml dem (ST l m sh):=by
 unfold bJ tN;simp only[dD,LK]
 cases aE AV.any l s with
 | bool c=>cases c<;>cases b<;>rfl
 | _=>rfl
@[go_sem] theorem K4 (c want:Bool) (dst:Option Nat) (k:AK) (args:List AR) (ml:ML) (dem:Option Nat) (σ:AS):tN G (.bool c) want dst k args ml dem σ=if c=want then opX G dst k args ml dem σ else some (put σ dst .undef):=(rfl)
@[go_sem] theorem I7 (want:Bool) (dst:Option Nat) (k:AK) (args:List AR) (ml:ML) (dem:Option Nat) (σ:AS):tN G .undef want dst k args ml dem σ=some (put σ dst .undef):=(rfl)
attribute [go_sem] eO DO
@[go_sem] theorem Y8 (f:Nat->AV) (s:Nat):ev f (.t s)=f s:=(rfl)
@[go_sem] theorem Y9 (f:Nat->AV) (a:AV):ev f (.c a)=a:=(rfl)
@[go_sem] theorem YI (d:Nat) (x:AR):opX G (some d) .mv [x] .none none (ST l m sh)=some (ST (dJ l d (aH (ev (aE .any l) x))) m sh):=by
 show some (put (ST l m sh) (some d) _)=_;rw[eO];rfl
@[go_sem] theorem V6 (d s:Nat):opX G (some d) .mvo [.t s] .none (some s) (ST l m sh)=some (ST (dJ (dJ l s (aH (aE .any l s))) d (aE .any l s)) m sh):=by
 show some (put (cI (ST l m sh) (some s)) (some d) _)=_;rw[zZ,eO];rfl
def dV (d:Nat) (l:List (Nat × AV)) (m:List (Nat × Option (List AV))) (sh:LL) (v:Option AV):Option AS:=v.map fun v=>ST (dJ l d v) m sh
@[go_sem] theorem O3 (d:Nat) (v:AV):dV d l m sh (some v)=some (ST (dJ l d v) m sh):=(rfl)
@[go_sem] theorem O4 (d:Nat):dV d l m sh none=none:=(rfl)
@[go_sem] theorem Q0 (d:Nat) (c:Prop) [Decidable c] (x y:Option AV):dV d l m sh (if c then x else y)=if c then dV d l m sh x else dV d l m sh y:=by split<;>rfl
theorem cH {d:Nat} {k:AK} {args:List AR} {r:Option AV} (h:kf G d .none k (args.map (ev (aE .any l))) (none,[])=r.map fun v=>(v,(none,[]))):opX G (some d) k args .none none (ST l m sh)=dV d l m sh r:=by
 unfold opX;have h':kf G ((some d).getD 0) .none k (args.map (ev (ST l m sh).fr)) (rdm (ST l m sh) .none)=r.map fun v=>(v,(none,[])):=h
 rw[h']
 cases r with
 | none=>rfl
 | some v =>
  show some (put (ST l m sh) (some d) v)=_;rw[eO];rfl
def KR:AV->AV->AV->Option AV
 | .bool c,a,b=>some (aH (if c then a else b))
 | _,_,_=>none
@[go_sem] theorem MJ (c:Bool) (a b:AV):KR (.bool c) a b=some (if c then aH a else aH b):=by cases c<;>rfl
@[go_sem] theorem UG (d:Nat) (c x y:AR):opX G (some d) .pick [c,x,y] .none none (ST l m sh)=dV d l m sh (KR (ev (aE .any l) c) (ev (aE .any l) x) (ev (aE .any l) y)):=by
 apply cH;simp only[map_cons,map_nil,kf]
 cases ev (aE AV.any l) c<;>rfl
@[go_sem] theorem WI (d:Nat) (op:BinOp) (x y:AR):opX G (some d) (.bin op) [x,y] .none none (ST l m sh)=dV d l m sh (dX op (ev (aE .any l) x) (ev (aE .any l) y)):=by
 apply cH;simp only[map_cons,map_nil,kf,kf0]
def TR (ne:Bool):AV->AV->Option AV
 | .bool x,.bool y=>some (.bool (if ne then x != y else x == y))
 | _,_=>none
@[go_sem] theorem VP (x y:Bool):TR true (.bool x) (.bool y)=some (.bool (x != y)):=(rfl)
@[go_sem] theorem WJ (d:Nat) (ne:Bool) (x y:AR):opX G (some d) (.beq ne) [x,y] .none none (ST l m sh)=dV d l m sh (TR ne (ev (aE .any l) x) (ev (aE .any l) y)):=by
 apply cH;simp only[map_cons,map_nil,kf]
 cases ev (aE AV.any l) x<;>cases ev (aE AV.any l) y<;>rfl
def unA:UnOp->AV->Option AV
 | .neg,.int k n=>some (.int k (k.wrap (0 - n)))
 | .not,.bool b=>some (.bool !b)
 | _,_=>none
def YX (ne:Bool) (ks:List Nat):AV->AV->Option AV
 | .agg x,.agg y=>(eqL ks x y).map fun b=>.bool (if ne then !b else b)
 | _,_=>none
@[go_sem] theorem T4 (k:IntKind) (n:Int):unA .neg (.int k n)=some (.int k (k.wrap (0 - n))):=(rfl)
@[go_sem] theorem T3 (b:Bool):unA .not (.bool b)=some (.bool !b):=(rfl)
@[go_sem] theorem YG (d:Nat) (op:UnOp) (x:AR):opX G (some d) (.un op) [x] .none none (ST l m sh)=dV d l m sh (unA op (ev (aE .any l) x)):=by
 apply cH;simp only[map_cons,map_nil,kf]
 cases op<;>cases ev (aE AV.any l) x<;>rfl
def Y2:AV->Option AV
 | .sl _ _ x=>some (.int .i64 (x.length:Int))
 | .str s=>some (.int .i64 (s.length:Int))
 | _=>none
def qB (str:Bool) (v:AV):Option AV:=match str,v with
 | false,.sl _ _ x=>some (.int .i64 (x.length:Int))
 | false,.ss _ _ n _=>some (.int .i64 (n:Int))
 | true,.str s=>some (.int .i64 (s.length:Int))
 | _,_=>none
@[go_sem] theorem R4 (o i n z:Nat):qB false (.ss o i n z)=some (.int .i64 (n:Int)):=(rfl)
@[go_sem] theorem R5 (o:Own) (z:Nat) (x:LL):qB false (.sl o z x)=some (.int .i64 (x.length:Int)):=(rfl)
@[go_sem] theorem PG (s:List UInt8):qB true (.str s)=some (.int .i64 (s.length:Int)):=(rfl)
@[go_sem] theorem WC (d:Nat) (b:Bool) (x:AR):opX G (some d) (.len b) [x] .none none (ST l m sh)=dV d l m sh (qB b (ev (aE .any l) x)):=by
 apply cH;simp only[map_cons,map_nil,kf]
 cases b<;>cases ev (aE AV.any l) x<;>rfl
def mmA (b:Bool):AV->AV->Option AV
 | .int k x,.int k' y=>if k=k' then some (.int k (if b then (if x < y then y else x) else (if y < x then y else x))) else none
 | _,_=>none
@[go_sem] theorem UP (k:IntKind) (x y:Int):mmA true (.int k x) (.int k y)=some (.int k (max x y)):=by
 simp only[mmA,if_true,Option.some.injEq,AV.int.injEq,true_and];split<;>omega
@[go_sem] theorem UO (k:IntKind) (x y:Int):mmA false (.int k x) (.int k y)=some (.int k (min x y)):=by
 simp only[mmA,if_true,Bool.false_eq_true,if_false,Option.some.injEq,AV.int.injEq,true_and];split<;>omega
@[go_sem] theorem YJ (d:Nat) (b:Bool) (x y:AR):opX G (some d) (.mm b) [x,y] .none none (ST l m sh)=dV d l m sh (mmA b (ev (aE .any l) x) (ev (aE .any l) y)):=by
 apply cH;simp only[map_cons,map_nil,kf];cases hx:ev (aE AV.any l) x<;>cases hy:ev (aE AV.any l) y<;>try rfl
 rename_i k n k' n';simp only[kf0,mmA]
 split<;>rfl
def KU:AV->Option AV
 | .ptr a b=>some (.ptr a b)
 | .loc a b=>some (.loc a b)
 | .ip x=>some (.ip x)
 | _=>none
@[go_sem] theorem PC (a b:Nat):KU (.ptr a b)=some (.ptr a b):=(rfl)
@[go_sem] theorem UH (d:Nat) (x:AR):opX G (some d) .nilc [x] .none none (ST l m sh)=dV d l m sh (KU (ev (aE .any l) x)):=by
 apply cH;simp only[map_cons,map_nil,kf]
 cases ev (aE AV.any l) x<;>rfl
def faA (off:Nat):AV->Option AV
 | .loc s o=>some (.loc s (o+off))
 | .ptr i o=>some (.ptr i (o+off))
 | .ip x=>some (.ip (x.drop off))
 | _=>none
@[go_sem] theorem U1 (off s o:Nat):faA off (.loc s o)=some (.loc s (o+off)):=(rfl)
@[go_sem] theorem U0 (off s o:Nat):faA off (.ptr s o)=some (.ptr s (o+off)):=(rfl)
@[go_sem] theorem W3 (off:Nat) (x:List AV):faA off (.ip x)=some (.ip (x.drop off)):=(rfl)
@[go_sem] theorem YM (d off:Nat) (x:AR):opX G (some d) (.fa off) [x] .none none (ST l m sh)=dV d l m sh (faA off (ev (aE .any l) x)):=by
 apply cH;simp only[map_cons,map_nil,kf]
 cases ev (aE AV.any l) x<;>rfl
def Y7 (agg:Bool) (off n:Nat):AV->Option AV
 | .agg x=>eK agg off n x
 | _=>none
def iaK (z:Nat):AV->AV->Option AV
 | .sl _ z' x,.int _ i=>if z'=z/\0<=i then (x[i.toNat]?).map .ip else none
 | .ss o off n z',.int _ i=>if z'=z/\0<=i/\i < n then some (.ptr o (off+i.toNat*z)) else none
 | _,_=>none
@[go_sem] theorem kM (z o off n:Nat) (k:IntKind) (i:Int):iaK z (.ss o off n z) (.int k i)=if 0<=i/\i < n then some (.ptr o (off+i.toNat*z)) else none:=by simp [iaK]
@[go_sem] theorem EW (z:Nat) (o:Own) (x:LL) (k:IntKind) (i:Int):iaK z (.sl o z x) (.int k i)=if 0<=i then (x[i.toNat]?).map .ip else none:=by simp [iaK]
@[go_sem] theorem YL (d z:Nat) (x y:AR):opX G (some d) (.ia z) [x,y] .none none (ST l m sh)=dV d l m sh (iaK z (ev (aE .any l) x) (ev (aE .any l) y)):=by
 apply cH;simp only[map_cons,map_nil,kf];cases hx:ev (aE AV.any l) x<;>cases hy:ev (aE AV.any l) y<;>try rfl
 all_goals
  simp only[kf0,iaK];split
  ·first | rfl | (simp only[Option.map_map];rfl)
  ·rfl
def NH (z len:Nat):AV->AV->Option AV
 | a,.int _ i=>if 0<=i/\i < len then
   (match a with
   | .loc s o=>some (.loc s (o+i.toNat*z))
   | .ptr p o=>some (.ptr p (o+i.toNat*z))
   | .ip x=>some (.ip (x.drop (i.toNat*z)))
   | _=>none) else none
 | _,_=>none
@[go_sem] theorem UX (z len:Nat) (x:List AV) (k:IntKind) (i:Int):NH z len (.ip x) (.int k i)=if 0<=i/\i < len then some (.ip (x.drop (i.toNat*z))) else none:=(rfl)
@[go_sem] theorem WE (d z len:Nat) (x y:AR):opX G (some d) (.iaA z len) [x,y] .none none (ST l m sh)=dV d l m sh (NH z len (ev (aE .any l) x) (ev (aE .any l) y)):=by
 apply cH;simp only[map_cons,map_nil,kf];cases hx:ev (aE AV.any l) x<;>cases hy:ev (aE AV.any l) y<;>try rfl
 all_goals
  simp only[kf0,NH]
  split<;>rfl
def NF:AV->AV->Option AV
 | .str s,.int _ i=>if 0<=i then (s[i.toNat]?).map fun b=>.int .u8 (b.toNat:Int) else none
 | _,_=>none
@[go_sem] theorem SF (s:List UInt8) (k:IntKind) (i:Int):NF (.str s) (.int k i)=if 0<=i then (s[i.toNat]?).map fun b=>.int .u8 (b.toNat:Int) else none:=(rfl)
@[go_sem] theorem WD (d:Nat) (x y:AR):opX G (some d) .ixs [x,y] .none none (ST l m sh)=dV d l m sh (NF (ev (aE .any l) x) (ev (aE .any l) y)):=by
 apply cH;simp only[map_cons,map_nil,kf];cases hx:ev (aE AV.any l) x<;>cases hy:ev (aE AV.any l) y<;>try rfl
 simp only[kf0,NF];split
 ·simp only[Option.map_map];rfl
 ·rfl
@[go_sem] theorem UF (d:Nat) (str:Bool) (z:Nat) (x y:AR):opX G (some d) (.slc str z true false) [x,y] .none none (ST l m sh)=dV d l m sh (b8 str z (ev (aE .any l) x) (some (ev (aE .any l) y)) none):=by
 apply cH;simp only[map_cons,map_nil,kf,kf0]
@[go_sem] theorem UE (d:Nat) (str:Bool) (z:Nat) (x y:AR):opX G (some d) (.slc str z false true) [x,y] .none none (ST l m sh)=dV d l m sh (b8 str z (ev (aE .any l) x) none (some (ev (aE .any l) y))):=by
 apply cH;simp only[map_cons,map_nil,kf,kf0]
@[go_sem] theorem UD (d:Nat) (str:Bool) (z:Nat) (x y w:AR):opX G (some d) (.slc str z true true) [x,y,w] .none none (ST l m sh)=dV d l m sh (b8 str z (ev (aE .any l) x) (some (ev (aE .any l) y)) (some (ev (aE .any l) w))):=by
 apply cH;simp only[map_cons,map_nil,kf,kf0]
@[go_sem] theorem RL (d:Nat) (zero:List AV) (pl:List (Nat × Nat)) (args:List AR):opX G (some d) (.build zero pl) args .none none (ST l m sh)=dV d l m sh ((dO zero pl (args.map (ev (aE .any l)))).map .agg):=by
 apply cH;simp only[kf,kf0,Option.map_map];rfl
def fD (z:Nat) (zero:List AV) (len:Nat) (pl:List Nat) (xs:List AV):Option AV:=
 (dO (aT zero len) (pl.map fun i=>(i*z,z)) xs).map fun cs=>.sl .full z (cK z len cs)
@[go_sem] theorem V8 (d z:Nat) (zero:List AV) (len:Nat) (pl:List Nat) (args:List AR):opX G (some d) (.mks z zero len pl) args .none none (ST l m sh)=dV d l m sh (fD z zero len pl (args.map (ev (aE .any l)))):=by
 apply cH;simp only[kf,kf0,fD,Option.map_map];rfl
def oA (str:Bool) (z bytes:Nat):AV->AV->Option AV
 | .sl md z' x,y=>(i7 str z y).bind fun l2=>if (z'=z\/(x=[]/\md=.full))/\md≠.no/\0 < z/\(x.length+l2.length)*bytes<=140737488355328/\x.length+l2.length<=4611686018427387904 then some (.sl .own z (x++l2)) else none
 | _,_=>none
theorem QqQ (d:Nat) (str:Bool) (z bytes:Nat) (u v:AV):kf G d .none (.app str z bytes) [u,v] (none,[])=(oA str z bytes u v).map fun v=>(v,(none,[])):=by
 simp only[kf]
 cases u<;>try rfl
 simp only[kf0,oA]
 cases i7 str z v with
 | none=>rfl
 | some l2 =>
  simp only[Option.bind_some]
  split<;>rfl
@[go_sem] theorem WL (d s:Nat) (str:Bool) (z bytes:Nat) (y:AR):opX G (some d) (.app str z bytes) [.t s,y] .none (some s) (ST l m sh)=dV d (dJ l s (aH (aE .any l s))) m sh (oA str z bytes (aE .any l s) (ev (aE .any l) y)):=by
 unfold opX;have h':kf G ((some d).getD 0) .none (.app str z bytes) ([AR.t s,y].map (ev (ST l m sh).fr)) (rdm (ST l m sh) .none)=(oA str z bytes (aE .any l s) (ev (aE .any l) y)).map fun v=>(v,(none,[])):=QqQ d str z bytes _ _
 rw[h']
 cases oA str z bytes (aE .any l s) (ev (aE .any l) y) with
 | none=>rfl
 | some v =>
  show some (put (cI (ST l m sh) (some s)) (some d) v)=_;rw[zZ,eO];rfl
@[go_sem] theorem UK (d:Nat) (str:Bool) (z bytes:Nat) (a:AV) (y:AR):opX G (some d) (.app str z bytes) [.c a,y] .none none (ST l m sh)=dV d l m sh (oA str z bytes a (ev (aE .any l) y)):=
 cH (QqQ d str z bytes _ _)
def SQ (i:Nat):AV->Option AV
 | .tup x=>x[i]?
 | _=>none
@[go_sem] theorem SP (i:Nat) (x:List AV):SQ i (.tup x)=x[i]?:=(rfl)
@[go_sem] theorem WF (d i:Nat) (x:AR):opX G (some d) (.ext i) [x] .none none (ST l m sh)=dV d l m sh (SQ i (ev (aE .any l) x)):=by
 apply cH;simp only[map_cons,map_nil,kf]
 cases ev (aE AV.any l) x<;>rfl
def Y1 (f:FuncId) (caps:List AV):Option AV:=if caps.all (vY true) then some (.fn f caps) else none
@[go_sem] theorem KJ (off:Nat) (x:List AV):eK false off 1 x=x[off]?:=by
 unfold eK;simp only[Bool.false_eq_true,if_false];cases h:x.drop off with
 | nil =>
  have:x[off]?=none:=by
   rw[getElem?_eq_none]
   have:=congrArg List.length h
   simp at this;omega
  rw[this];rfl
 | cons a r =>
  have:x[off]?=some a:=by
   have h2:(x.drop off)[0]?=some a:=by rw[h];rfl
   rw[getElem?_drop] at h2;simpa using h2
  rw[this];rfl
@[go_sem] theorem LT (off n:Nat) (x:List AV):eK true off n x=if ((x.drop off).take n).length=n then some (.agg ((x.drop off).take n)) else none:=(rfl)
attribute [go_sem] getElem?_cons_zero getElem?_cons_succ drop_zero drop_succ_cons take_succ_cons take_zero
@[go_sem] theorem RM (d:Nat) (zero:List AV):opX G (some d) (.alloc zero) [] (.lo d) none (ST l m sh)=if (aE none m d).isNone then some (ST (dJ l d (.loc d 0)) (dJ m d (some zero)) sh) else none:=by
 unfold opX;simp only[map_nil,kf,kf0,wZ,Option.getD_some,true_and];by_cases h:(aE none m d).isNone=true
 ·rw[if_pos h,if_pos h]
  show some (put (cI (wrm (ST l m sh) _ _) none) (some d) _)=_;rw[wJ,g8,eO]
 ·rw[if_neg h,if_neg h]
@[go_sem] theorem PA (d:Nat) (zero:List AV):opX G (some d) (.allocS zero) [] .sh none (ST l m sh)=some (ST (dJ l d (.ptr sh.length 0)) m (sh++[zero])):=by
 unfold opX;simp only[map_nil,kf,kf0,gP,if_true];rw[CD,g8,eO]
def OB (d:Nat) (l:List (Nat × AV)) (m:List (Nat × Option (List AV))) (sh:LL):Option (List AV)->Option AS
 | some cs=>if (aE none m d).isNone then some (ST (dJ l d (.loc d 0)) (dJ m d (some cs)) sh) else none
 | none=>none
@[go_sem] theorem PW (d:Nat) (cs:List AV):OB d l m sh (some cs)=if (aE none m d).isNone then some (ST (dJ l d (.loc d 0)) (dJ m d (some cs)) sh) else none:=(rfl)
@[go_sem] theorem WH (d n:Nat) (x:AR):opX G (some d) (.box n) [x] (.lo d) none (ST l m sh)=OB d l m sh (bD n (ev (aE .any l) x)):=by
 unfold opX;simp only[map_cons,map_nil,kf,kf0,wZ,Option.getD_some,true_and,iM]
 cases bD n (ev (aE AV.any l) x) with
 | none=>simp only[Option.map_none,ite_self];rfl
 | some cs =>
  simp only[Option.map_some,OB];by_cases h:(aE none m d).isNone=true
  ·rw[if_pos h,if_pos h]
   show some (put (cI (wrm (ST l m sh) _ _) none) (some d) _)=_;rw[wJ,g8,eO]
  ·rw[if_neg h,if_neg h]
def LD (d:Nat) (l:List (Nat × AV)) (m:List (Nat × Option (List AV))) (sh:LL):Option (List AV)->Option AS
 | some cs=>some (ST (dJ l d (.ptr sh.length 0)) m (sh++[cs]))
 | none=>none
@[go_sem] theorem OC (d:Nat) (cs:List AV):LD d l m sh (some cs)=some (ST (dJ l d (.ptr sh.length 0)) m (sh++[cs])):=(rfl)
@[go_sem] theorem UI (d n:Nat) (x:AR):opX G (some d) (.boxS n) [x] .sh none (ST l m sh)=LD d l m sh (bD n (ev (aE .any l) x)):=by
 unfold opX;simp only[map_cons,map_nil,kf,kf0,gP,if_true,iM]
 cases bD n (ev (aE AV.any l) x) with
 | none=>rfl
 | some cs =>
  show some (put (cI (wrm (ST l m sh) _ _) none) (some d) _)=_;rw[CD,g8,eO];rfl
def l3:List AV->Option (List AV)
 | []=>some []
 | x :: xs=>if a9 (aH x)=true then (l3 xs).map (aH x :: ·) else none
theorem vP:∀ (x:List AV),l3 x=if x.all (fun y=>a9 (aH y))=true then some (x.map aH) else none
 | []=>rfl
 | x :: xs=>by
  simp only[l3,vP xs,all_cons,map_cons];by_cases h:a9 (aH x)=true
  ·rw[if_pos h]
   simp only[h,Bool.true_and]
   split<;>rfl
  ·rw[if_neg h]
   have:a9 (aH x)=false:=by simpa using h
   simp [this]
@[go_sem] theorem UV (k:IntKind) (n:Int):ldV (.int k n)=some (.int k n):=(rfl)
@[go_sem] theorem UU (s:List UInt8):ldV (.str s)=some (.str s):=(rfl)
@[go_sem] theorem WS (z:Nat) (x:LL):ldV (.sl .no z x)=some (.sl .no z x):=(rfl)
@[go_sem] theorem PM:l3 []=some []:=(rfl)
@[go_sem] theorem PN (k:IntKind) (n:Int) (xs:List AV):l3 (.int k n :: xs)=(l3 xs).map (.int k n :: ·):=(rfl)
@[go_sem] theorem PL (s:List UInt8) (xs:List AV):l3 (.str s :: xs)=(l3 xs).map (.str s :: ·):=(rfl)
@[go_sem] theorem PH (off n:Nat) (x:List AV):ldC false off n x=(x[off]?).bind ldV:=by
 unfold ldC;simp only[Bool.false_eq_true,if_false];cases x[off]?<;>rfl
@[go_sem] theorem R6 (off n:Nat) (x:List AV):ldC true off n x=if ((x.drop off).take n).length=n then (l3 ((x.drop off).take n)).map .agg else none:=by
 unfold ldC;rw[if_pos rfl,vP];by_cases h1:((x.drop off).take n).length=n
 ·rw[if_pos h1]
  by_cases h2:((x.drop off).take n).all (fun x=>a9 (aH x))=true
  ·rw[if_pos ⟨h1,h2⟩,if_pos h2];rfl
  ·rw[if_neg (fun h=>h2 h.2),if_neg h2];rfl
 ·rw[if_neg (fun h=>h1 h.1),if_neg h1]
def ldA (ml:ML) (agg:Bool) (n:Nat) (m:List (Nat × Option (List AV))) (sh:LL):AV->Option AV
 | .loc s off=>if ml=.lo s then (aE none m s).bind fun cells=>ldC agg off n cells else none
 | .ptr o off=>if ml=.sh then (sh[o]?).bind fun cells=>ldC agg off n cells else none
 | .ip cells=>eK agg 0 n cells
 | _=>none
@[go_sem] theorem UW (s:Nat) (agg:Bool) (n off:Nat):ldA (.lo s) agg n m sh (.loc s off)=(aE none m s).bind fun cells=>ldC agg off n cells:=by simp [ldA]
@[go_sem] theorem lV (agg:Bool) (n o off:Nat):ldA .sh agg n m sh (.ptr o off)=(sh[o]?).bind fun cells=>ldC agg off n cells:=by simp [ldA]
@[go_sem] theorem WT (ml:ML) (agg:Bool) (n:Nat) (cells:List AV):ldA ml agg n m sh (.ip cells)=eK agg 0 n cells:=(rfl)
theorem lK (ml:ML) (d:Nat) (v:AV):(some (put (cI (wrm (ST l m sh) (rdm (ST l m sh) ml) ml) none) (some d) v):Option AS)=dV d l m sh (some v):=by
 rw[@xX CN,g8,eO];rfl
@[go_sem] theorem YK (d:Nat) (agg:Bool) (n:Nat) (x:AR) (ml:ML):opX G (some d) (.ld agg n) [x] ml none (ST l m sh)=dV d l m sh (ldA ml agg n m sh (ev (aE .any l) x)):=by
 unfold opX;have key:=fun v=>lK (l:=l) (m:=m) (sh:=sh) ml d v
 simp only[map_cons,map_nil,kf,kf0,iM];cases hx:ev (aE AV.any l) x<;>simp only[ldA]<;>try rfl
 ·rename_i o off
  by_cases hml:ml=.sh
  ·subst hml
   simp only[if_true,gP]
   cases sh[o]? with
   | none=>rfl
   | some cells =>
    simp only[Option.bind_some]
    cases ldC agg off n cells with
    | none=>rfl
    | some v=>exact key v
  ·simp only[hml,if_false];rfl
 ·rename_i s off
  by_cases hml:ml=.lo s
  ·subst hml
   rw[if_pos rfl,if_pos rfl];have h1:(rdm (ST l m sh) (.lo s)).1=aE none m s:=rfl;rw[h1]
   cases aE none m s with
   | none=>rfl
   | some cells =>
    simp only[Option.bind_some]
    cases ldC agg off n cells with
    | none=>rfl
    | some v=>exact key v
  ·simp only[hml,if_false];rfl
 ·cases eK agg 0 n _ with
  | none=>rfl
  | some v=>exact key v
@[go_sem] theorem TO (k:IntKind) (n:Int) (x:List AV):bP (.int k n :: x)=true:=(rfl)
@[go_sem] theorem VB (o:Own) (z:Nat) (y:LL) (x:List AV):bP (.sl o z y :: x)=true:=(rfl)
def stX (ml:ML) (_:Nat) (l:List (Nat × AV)) (m:List (Nat × Option (List AV))) (sh:LL):AV->Option (List AV)->Option AS
 | .loc s off,some cs=>if ml=.lo s then (aE none m s).bind fun cells=>(dW off cs cells).map fun c'=>ST l (dJ m s (some c')) sh else none
 | .ptr o off,some cs=>if ml=.sh then (sh[o]?).bind fun cells=>if bP cells=true then (dW off cs cells).map fun c'=>ST l m (sh.set o c') else none else none
 | _,_=>none
@[go_sem] theorem T7 (s n off:Nat) (cs:List AV):stX (.lo s) n l m sh (.loc s off) (some cs)=(aE none m s).bind fun cells=>(dW off cs cells).map fun c'=>ST l (dJ m s (some c')) sh:=by simp [stX]
@[go_sem] theorem oJ (o n off:Nat) (cs:List AV):stX .sh n l m sh (.ptr o off) (some cs)=(sh[o]?).bind fun cells=>if bP cells=true then (dW off cs cells).map fun c'=>ST l m (sh.set o c') else none:=by simp [stX]
@[go_sem] theorem YH (n:Nat) (x y:AR) (ml:ML):opX G none (.st n) [x,y] ml none (ST l m sh)=stX ml n l m sh (ev (aE .any l) x) (cX n (ev (aE .any l) y)):=by
 unfold opX;simp only[map_cons,map_nil,kf,kf0,iM];cases hy:cX n (ev (aE AV.any l) y) with
 | none =>
  have h0:∀ {α β:Type} (o:Option α),(o.bind fun _=>(none:Option β))=none:=fun o=>by cases o<;>rfl
  cases ev (aE AV.any l) x<;>simp only[stX,Option.bind_none,h0,ite_self]<;>rfl
 | some cs =>
  cases hx:ev (aE AV.any l) x<;>simp only[stX,Option.bind_some]<;>try rfl
  ·rename_i o off
   by_cases hml:ml=.sh
   ·subst hml
    simp only[if_true,gP]
    cases sh[o]? with
    | none=>rfl
    | some cells =>
     simp only[Option.bind_some];by_cases hb:bP cells=true
     ·rw[if_pos hb,if_pos hb]
      cases dW off cs cells<;>rfl
     ·rw[if_neg hb,if_neg hb]
   ·simp only[hml,if_false]
  ·rename_i s off
   by_cases hml:ml=.lo s
   ·subst hml
    simp only[if_true,wZ]
    cases aE none m s with
    | none=>rfl
    | some cells =>
     simp only[Option.bind_some]
     cases dW off cs cells with
     | none=>rfl
     | some c' =>
      show some (put (cI (wrm (ST l m sh) _ (.lo s)) none) none _)=_;rw[wJ];rfl
   ·simp only[hml,if_false]
def rE (d:Nat) (l:List (Nat × AV)) (m:List (Nat × Option (List AV))) (r:Option (AV × LL)):Option AS:=r.map fun r=>ST (dJ l d r.1) m r.2
@[go_sem] theorem O5 (d:Nat) (v:AV) (sh':LL):rE d l m (some (v,sh'))=some (ST (dJ l d v) m sh'):=(rfl)
@[go_sem] theorem O6 (d:Nat):rE d l m none=none:=(rfl)
@[go_sem] theorem Q4 (d:Nat) (c:Prop) [Decidable c] (x y:Option (AV × LL)):rE d l m (if c then x else y)=if c then rE d l m x else rE d l m y:=by split<;>rfl
theorem IK {d:Nat} {k:AK} {args:List AR} {r:Option (AV × LL)} (h:kf G d .sh k (args.map (ev (aE .any l))) (none,sh)=r.map fun v=>(v.1,(none,v.2))):opX G (some d) k args .sh none (ST l m sh)=rE d l m r:=by
 unfold opX;have h':kf G ((some d).getD 0) .sh k (args.map (ev (ST l m sh).fr)) (rdm (ST l m sh) .sh)=r.map fun v=>(v.1,(none,v.2)):=h
 rw[h']
 cases r with
 | none=>rfl
 | some v =>
  show some (put (ST l m v.2) (some d) v.1)=_;rw[eO];rfl
def MD (sh:LL):AV->Option (AV × LL)
 | .str s=>if s.length<=140737488355328 then some (.ss sh.length 0 s.length 1,sh++[s.map fun b=>.int .u8 (b.toNat:Int)]) else none
 | _=>none
def bY (s:List UInt8):List AV:=s.map fun b=>.int .u8 (b.toNat:Int)
@[go_sem] theorem QT (s:List UInt8):MD sh (.str s)=if s.length<=140737488355328 then some (.ss sh.length 0 s.length 1,sh++[bY s]) else none:=(rfl)
@[go_sem] theorem V5 (d:Nat) (x:AR):opX G (some d) .s2b [x] .sh none (ST l m sh)=rE d l m (MD sh (ev (aE .any l) x)):=by
 apply IK;simp only[map_cons,map_nil,kf]
 cases ev (aE AV.any l) x<;>try rfl
 simp only[kf0,MD,true_and]
 split<;>rfl
def B7 (sh:LL):AV->Option AV
 | .sl _ z l=>if z=1 then (aX l).map .str else none
 | .ss o off n z=>if z=1 then (eD false 1 sh (.ss o off n z)).bind fun l=>(aX l).map .str else none
 | _=>none
@[go_sem] theorem J6 (o off n:Nat):B7 sh (.ss o off n 1)=(sh[o]?).bind fun cells=>(cV off n 1 cells).bind fun l=>(aX l).map .str:=by
 simp only[B7,eD,if_true,and_self];cases sh[o]?<;>rfl
@[go_sem] theorem UJ (d:Nat) (x:AR):opX G (some d) .b2s [x] .sh none (ST l m sh)=dV d l m sh (B7 sh (ev (aE .any l) x)):=by
 unfold opX;simp only[map_cons,map_nil,kf,iM];cases hx:ev (aE AV.any l) x<;>try rfl
 ·rename_i o z y
  simp only[kf0,B7,gP];by_cases hz:z=1
  ·rw[if_pos hz,if_pos hz]
   cases aX y with
   | none=>rfl
   | some s=>exact lK .sh d _
  ·rw[if_neg hz,if_neg hz];rfl
 ·rename_i o off n z
  simp only[kf0,B7,gP,true_and];by_cases hz:z=1
  ·rw[if_pos hz,if_pos hz]
   cases eD false 1 sh (.ss o off n z) with
   | none=>rfl
   | some y =>
    simp only[Option.bind_some]
    cases aX y with
    | none=>rfl
    | some s=>exact lK .sh d _
  ·rw[if_neg hz,if_neg hz];rfl
def OF:AV->Option AV
 | .sl _ z l=>if z=1 then (aX l).map .str else none
 | _=>none
@[go_sem] theorem VQ (o:Own) (x:LL):OF (.sl o 1 x)=(aX x).map .str:=(rfl)
@[go_sem] theorem WK (d:Nat) (x:AR):opX G (some d) .b2s [x] .none none (ST l m sh)=dV d l m sh (OF (ev (aE .any l) x)):=by
 apply cH;simp only[map_cons,map_nil,kf]
 cases ev (aE AV.any l) x<;>try rfl
 ·simp only[kf0,OF]
  split
  ·simp only[Option.map_map];rfl
  ·rfl
@[go_sem] theorem GA:aX []=some []:=(rfl)
@[go_sem] theorem F2 (s:List UInt8):aX (aM s)=some s:=by
 induction s with
 | nil=>rfl
 | cons b s ih =>
  have:aM (b :: s)=[.int .u8 (b.toNat:Int)] :: aM s:=rfl
  rw[this];simp only[aX,qT,ih,Int.toNat_natCast,UInt8.ofNat_toNat]
def IM (z:Nat) (zero:List AV) (bytes:Nat) (sh:LL):AV->AV->Option (AV × LL)
 | .int k n,.int k' c=>if k=.i64/\k'=.i64/\0<=n/\n<=c/\c*bytes<=140737488355328/\c<=4611686018427387904/\0 < z/\zero.length=z then some (.ss sh.length 0 n.toNat z,sh++[aT zero n.toNat]) else none
 | _,_=>none
@[go_sem] theorem RW (z:Nat) (zero:List AV) (bytes:Nat) (n c:Int):IM z zero bytes sh (.int .i64 n) (.int .i64 c)=if 0<=n/\n<=c/\c*bytes<=140737488355328/\c<=4611686018427387904/\0 < z/\zero.length=z then some (.ss sh.length 0 n.toNat z,sh++[aT zero n.toNat]) else none:=by
 simp only[IM,true_and]
@[go_sem] theorem WA (d z:Nat) (zero:List AV) (bytes:Nat) (x y:AR):opX G (some d) (.mkl z zero bytes) [x,y] .sh none (ST l m sh)=rE d l m (IM z zero bytes sh (ev (aE .any l) x) (ev (aE .any l) y)):=by
 apply IK;simp only[map_cons,map_nil,kf]
 cases ev (aE AV.any l) x<;>cases ev (aE AV.any l) y<;>try rfl
 simp only[kf0,IM,true_and]
 split<;>rfl
def eS (z bytes:Nat) (sh:LL) (l2:Option LL) (x:AV):Option (AV × LL):=
 l2.bind fun l2=>match x with
   | .sl .full _ []=>if l2=[] then some (.sl .full z [],sh) else if 0 < z/\l2.length*bytes<=140737488355328/\l2.length<=4611686018427387904 then some (.ss sh.length 0 l2.length z,sh++[l2.flatten]) else none
   | .ss o off n z'=>if off=0/\z'=z/\0 < z/\(n+l2.length)*bytes<=140737488355328/\n+l2.length<=4611686018427387904 then
     (sh[o]?).bind fun cells=>if bP cells/\n*z=cells.length/\cells.all eE then some (.ss sh.length 0 (n+l2.length) z,sh.set o bB++[cells++l2.flatten]) else none
    else none
   | _=>none
@[go_sem] theorem UL (d:Nat) (str:Bool) (z bytes:Nat) (x y:AR):opX G (some d) (.appS str z bytes) [x,y] .sh none (ST l m sh)=rE d l m (eS z bytes sh (eD str z sh (ev (aE .any l) y)) (ev (aE .any l) x)):=by
 apply IK;simp only[map_cons,map_nil,kf,kf0,if_true,eS]
 cases eD str z sh (ev (aE AV.any l) y) with
 | none=>rfl
 | some l2 =>
  simp only[Option.bind_some];generalize ev (aE AV.any l) x=vx
  cases vx<;>try rfl
  ·rename_i o z' y
   cases o<;>cases y<;>try rfl
   simp only;by_cases h1:l2=[]
   ·rw[if_pos h1,if_pos h1];rfl
   ·rw[if_neg h1,if_neg h1]
    split<;>rfl
  ·rename_i o off n z'
   simp only;by_cases h1:off=0/\z'=z/\0 < z/\(n+l2.length)*bytes<=140737488355328/\n+l2.length<=4611686018427387904
   ·rw[if_pos h1,if_pos h1]
    cases sh[o]? with
    | none=>rfl
    | some cells =>
     simp only[Option.bind_some]
     split<;>rfl
   ·rw[if_neg h1,if_neg h1];rfl
def C7 (len:Nat) (sh:LL):AV->AV->AV->Option AV
 | .ptr o off,.int _ i,.int _ j=>if 0<=i/\i < j/\j<=len then (sh[o]?).bind fun cells=>if bP cells/\off+len<=cells.length then some (.ss o (off+i.toNat) (j.toNat - i.toNat) 1) else none else none
 | _,_,_=>none
@[go_sem] theorem V3 (d len:Nat) (x i j:AR):opX G (some d) (.sla len) [x,i,j] .sh none (ST l m sh)=dV d l m sh (C7 len sh (ev (aE .any l) x) (ev (aE .any l) i) (ev (aE .any l) j)):=by
 unfold opX;have h':kf G ((some d).getD 0) .sh (.sla len) ([x,i,j].map (ev (ST l m sh).fr)) (rdm (ST l m sh) .sh)=(C7 len sh (ev (aE .any l) x) (ev (aE .any l) i) (ev (aE .any l) j)).map fun v=>(v,(none,sh)):=by
  simp only[map_cons,map_nil,kf,iM]
  cases ev (aE AV.any l) x<;>cases ev (aE AV.any l) i<;>cases ev (aE AV.any l) j<;>try rfl
  rename_i o off k1 i k2 j;simp only[kf0,C7,true_and,gP];by_cases h:0<=i/\i < j/\j<=len
  ·rw[if_pos h,if_pos h]
   cases sh[o]? with
   | none=>rfl
   | some cells =>
    simp only[Option.bind_some];by_cases h2:bP cells=true/\off+len<=cells.length
    ·rw[if_pos h2,if_pos h2];rfl
    ·rw[if_neg h2,if_neg h2];rfl
  ·rw[if_neg h,if_neg h];rfl
 rw[h']
 cases C7 len sh (ev (aE .any l) x) (ev (aE .any l) i) (ev (aE .any l) j) with
 | none=>rfl
 | some v =>
  show some (put (ST l m sh) (some d) v)=_;rw[eO];rfl
@[go_sem] theorem QN (len o off:Nat) (k1 k2:IntKind) (i j:Int):C7 len sh (.ptr o off) (.int k1 i) (.int k2 j)=if 0<=i/\i < j/\j<=len then (sh[o]?).bind fun cells=>if bP cells/\off+len<=cells.length then some (.ss o (off+i.toNat) (j.toNat - i.toNat) 1) else none else none:=(rfl)
def ZM (z:Nat) (zero:List AV) (l:List (Nat × AV)) (m:List (Nat × Option (List AV))) (sh:LL):AV->Option AS
 | .ss o off n z'=>if z'=z/\zero.length=z then (sh[o]?).bind fun cells=>if bP cells then (dW off (aT zero n) cells).map fun c'=>ST l m (sh.set o c') else none else none
 | .sl _ _ []=>some (ST l m sh)
 | _=>none
def cG (bytes n:Nat):Bool:=decide (n*bytes<=140737488355328/\n<=4611686018427387904)
@[go_sem] theorem jT (z' bytes z:Nat) (hz:0 < z) (r:List AV) (l2:LL):eS z bytes sh (some (r :: l2)) (.sl .full z' [])=if cG bytes (l2.length+1)=true then some (.ss sh.length 0 (l2.length+1) z,sh++[(r :: l2).flatten]) else none:=by
 simp [eS,cG,hz]
@[go_sem] theorem mL (o n bytes z:Nat) (hz:0 < z) (l2:LL):eS z bytes sh (some l2) (.ss o 0 n z)=if cG bytes (n+l2.length)=true then (sh[o]?).bind fun cells=>if bP cells=true/\n*z=cells.length/\cells.all eE=true then some (.ss sh.length 0 (n+l2.length) z,sh.set o bB++[cells++l2.flatten]) else none else none:=by
 simp [eS,cG,hz]
@[go_sem] theorem QW (o:Own) (z:Nat) (x:LL):eD false z sh (.sl o z x)=some x:=by simp [eD,i7]
@[go_sem] theorem OX (s:List UInt8):eD true 1 sh (.str s)=some (aM s):=by simp [eD,i7]
def YF (z:Nat):AV->Option AV
 | .sl _ _ _=>some (.sl .full z [])
 | .ss _ _ _ _=>some (.sl .full z [])
 | _=>none
def HY (left:Bool) (x y:AV):Option AV:=shA left x y
@[go_sem] theorem V4 (d:Nat) (left:Bool) (x y:AR):opX G (some d) (.shf left) [x,y] .none none (ST l m sh)=dV d l m sh (HY left (ev (aE .any l) x) (ev (aE .any l) y)):=by
 apply cH;simp only[map_cons,map_nil,kf,kf0,HY]
@[go_sem] theorem V0 (k k':IntKind) (a b:Int):HY false (.int k a) (.int k' b)=if 0<=b then some (.int k (a.fdiv (2 ^ (min b.toNat k.bits)))) else none:=by simp [HY,shA]
def TF (k:IntKind):AV->Option AV
 | .int _ n=>some (.int k (k.wrap n))
 | _=>none
@[go_sem] theorem TE (k k':IntKind) (n:Int):TF k (.int k' n)=some (.int k (k.wrap n)):=(rfl)
@[go_sem] theorem WG (d:Nat) (k:IntKind) (x:AR):opX G (some d) (.cvi k) [x] .none none (ST l m sh)=dV d l m sh (TF k (ev (aE .any l) x)):=by
 apply cH;simp only[map_cons,map_nil,kf]
 cases ev (aE AV.any l) x<;>rfl
def Y5 (agg:Bool) (z len:Nat):AV->AV->Option AV
 | .agg l,.int _ i=>if 0<=i/\i < len/\l.length=len*z then eK agg (i.toNat*z) z l else none
 | _,_=>none
@[go_sem] theorem V9 (d:Nat):opX G (some d) .mkm [] .sh none (ST l m sh)=some (ST (dJ l d (.mp sh.length)) m (sh++[[.mapv []]])):=by
 have:opX G (some d) .mkm [] .sh none (ST l m sh)=rE d l m (some (.mp sh.length,sh++[[.mapv []]])):=by
  apply IK;rfl
 rw[this];rfl
def M0 (ok agg:Bool) (kk:List Nat) (zero:List AV) (sh:LL):AV->AV->Option AV
 | .mp o,k=>if aV k=true then (fY sh o).bind fun l=>(lkA kk k l).bind fun r=>lkR ok agg zero r else none
 | _,_=>none
@[go_sem] theorem UT (ok agg:Bool) (kk:List Nat) (zero:List AV) (o:Nat) (k:AV):M0 ok agg kk zero sh (.mp o) k=if aV k=true then (fY sh o).bind fun l=>(lkA kk k l).bind fun r=>lkR ok agg zero r else none:=(rfl)
@[go_sem] theorem WB (d:Nat) (ok agg:Bool) (kk:List Nat) (zero:List AV) (x y:AR):opX G (some d) (.lkp ok agg kk zero) [x,y] .sh none (ST l m sh)=dV d l m sh (M0 ok agg kk zero sh (ev (aE .any l) x) (ev (aE .any l) y)):=by
 unfold opX;simp only[map_cons,map_nil,kf,iM];cases hx:ev (aE AV.any l) x<;>try rfl
 rename_i o;simp only[kf0,M0,gP,true_and];by_cases hz:aV (ev (aE AV.any l) y)=true
 ·rw[if_pos hz,if_pos hz]
  cases fY sh o with
  | none=>rfl
  | some y' =>
   simp only[Option.bind_some]
   cases lkA kk (ev (aE AV.any l) y) y' with
   | none=>rfl
   | some r =>
    simp only[Option.bind_some]
    cases lkR ok agg zero r with
    | none=>rfl
    | some v=>exact lK .sh d v
 ·rw[if_neg hz,if_neg hz];rfl
def MT (kk:List Nat) (l:List (Nat × AV)) (m:List (Nat × Option (List AV))) (sh:LL):AV->AV->AV->Option AS
 | .mp o,k,v=>if aP k=true/\aP v=true then (fY sh o).bind fun x=>(muA kk k v x).map fun x'=>ST l m (sh.set o [.mapv x']) else none
 | _,_,_=>none
@[go_sem] theorem UN (kk:List Nat) (o:Nat) (k v:AV):MT kk l m sh (.mp o) k v=if aP k=true/\aP v=true then (fY sh o).bind fun x=>(muA kk k v x).map fun x'=>ST l m (sh.set o [.mapv x']) else none:=(rfl)
@[go_sem] theorem V7 (kk:List Nat) (x y z:AR):opX G none (.mup kk) [x,y,z] .sh none (ST l m sh)=MT kk l m sh (ev (aE .any l) x) (ev (aE .any l) y) (ev (aE .any l) z):=by
 unfold opX;simp only[map_cons,map_nil,kf,iM];cases hx:ev (aE AV.any l) x<;>try rfl
 rename_i o;simp only[kf0,MT,gP,true_and];by_cases hz:aP (ev (aE AV.any l) y)=true/\aP (ev (aE AV.any l) z)=true
 ·rw[if_pos hz,if_pos hz]
  cases fY sh o with
  | none=>rfl
  | some y' =>
   simp only[Option.bind_some]
   cases muA kk (ev (aE AV.any l) y) (ev (aE AV.any l) z) y'<;>rfl
 ·rw[if_neg hz,if_neg hz]
def Y4 (sh:LL):AV->Option (AV × LL)
 | .ptr o off=>(sh[o]?).bind fun cells=>if bP cells=true then (cells[off]?).bind fun x=>match x with
   | .sl .own z l=>some (x,sh.set o (cells.set off (.sl .no z l)))
   | .sl .full _ _=>some (x,sh)
   | _=>none else none
 | _=>none
def Y3 (o off:Nat) (cells:List AV) (sh:LL):AV->Option (AV × LL)
 | .sl .own z l=>some (.sl .own z l,sh.set o (cells.set off (.sl .no z l)))
 | .sl .full z l=>some (.sl .full z l,sh)
 | _=>none
def YW (l:List (Nat × AV)) (m:List (Nat × Option (List AV))) (sh:LL):AV->AV->Option AS
 | .ptr o off,.sl md z x=>(sh[o]?).bind fun cells=>if bP cells=true/\off < cells.length then some (ST l m (sh.set o (cells.set off (.sl md z x)))) else none
 | _,_=>none
def MF (d:Nat) (l:List (Nat × AV)) (m:List (Nat × Option (List AV))) (sh:LL):Option (AV × LL)->Option AS
 | some (v,[])=>some (ST (dJ l d v) m sh)
 | _=>none
def ME (d:Nat) (l:List (Nat × AV)) (m:List (Nat × Option (List AV))):Option (AV × LL)->Option AS
 | some (v,sh')=>some (ST (dJ l d v) m sh')
 | none=>none
@[go_sem] theorem OZ (d:Nat) (v:AV):MF d l m sh (some (v,[]))=some (ST (dJ l d v) m sh):=(rfl)
@[go_sem] theorem OY (d:Nat) (v:AV) (sh':LL):ME d l m (some (v,sh'))=some (ST (dJ l d v) m sh'):=(rfl)
def gR (p:Bool) (xs:List AV):Bool:=xs.all (d8 p)
@[go_sem] theorem MQ (p:Bool):gR p []=true:=(rfl)
@[go_sem] theorem KT (p:Bool) (x:AV) (xs:List AV):gR p (x :: xs)=(d8 p x && gR p xs):=(rfl)
@[go_sem] theorem TV (p:Bool) (k:IntKind) (n:Int):d8 p (.int k n)=true:=(rfl)
@[go_sem] theorem PZ (p b:Bool):d8 p (.bool b)=true:=(rfl)
@[go_sem] theorem TT (p:Bool) (s:List UInt8):d8 p (.str s)=true:=(rfl)
@[go_sem] theorem TU (p:Bool) (a b:Nat):d8 p (.ptr a b)=p:=(rfl)
@[go_sem] theorem VR (p:Bool) (a b c d:Nat):d8 p (.ss a b c d)=p:=(rfl)
@[go_sem] theorem TW (p:Bool) (x:List AV):d8 p (.agg x)=true:=(rfl)
@[go_sem] theorem VS (p:Bool) (o:Own) (z:Nat) (x:LL):d8 p (.sl o z x)=true:=(rfl)
@[go_sem] theorem VT (p:Bool) (f:FuncId) (caps:List AV):d8 p (.fn f caps)=caps.all (vY p):=(rfl)
def nL (G:aK) (d:Nat) (f:FuncId) (xs:List AV) (l:List (Nat × AV)) (m:List (Nat × Option (List AV))) (sh:LL):Option AS:=
 if gR false xs then MF d l m sh (G f (xs.map dR) []) else none
def qQ (G:aK) (d:Nat) (f:FuncId) (xs:List AV) (l:List (Nat × AV)) (m:List (Nat × Option (List AV))) (sh:LL):Option AS:=
 if gR true xs then ME d l m (G f (xs.map aH) sh) else none
theorem sG (d:Nat) (f:FuncId) (xs:List AV):(match g9 G .none f xs (rdm (ST l m sh) .none) with | some (v,m')=>some (put (cI (wrm (ST l m sh) m' .none) none) (some d) v) | none=>none)=nL G d f xs l m sh:=by
 unfold g9 nL gR;simp only;by_cases hc:xs.all (d8 false)=true
 ·rw[if_pos hc,if_pos hc]
  cases hg:G f (xs.map dR) [] with
  | none=>rfl
  | some r =>
   obtain⟨v,sh'⟩:=r
   cases sh' with
   | nil =>
    show some (put (ST l m sh) (some d) v)=_;rw[eO];rfl
   | cons c cs=>rfl
 ·rw[if_neg hc,if_neg hc]
theorem J0 (d:Nat) (f:FuncId) (xs:List AV):(match g9 G .sh f xs (rdm (ST l m sh) .sh) with | some (v,m')=>some (put (cI (wrm (ST l m sh) m' .sh) none) (some d) v) | none=>none)=qQ G d f xs l m sh:=by
 unfold g9 qQ gR;simp only[gP];by_cases hc:xs.all (d8 true)=true
 ·rw[if_pos hc,if_pos hc]
  cases hg:G f (xs.map aH) sh with
  | none=>rfl
  | some r =>
   obtain⟨v,sh'⟩:=r;show some (put (ST l m sh') (some d) v)=_;rw[eO];rfl
 ·rw[if_neg hc,if_neg hc]
@[go_sem] theorem RK (d:Nat) (f:FuncId) (args:List AR):opX G (some d) (.call f) args .none none (ST l m sh)=nL G d f (args.map (ev (aE .any l))) l m sh:=sG d f _
@[go_sem] theorem RJ (d:Nat) (f:FuncId) (args:List AR):opX G (some d) (.call f) args .sh none (ST l m sh)=qQ G d f (args.map (ev (aE .any l))) l m sh:=J0 d f _
@[go_sem] theorem PV (d:Nat) (f:FuncId) (xs:List AV):nL G d f xs l m sh=if gR false xs then MF d l m sh (G f (xs.map dR) []) else none:=(rfl)
@[go_sem] theorem PU (d:Nat) (f:FuncId) (xs:List AV):qQ G d f xs l m sh=if gR true xs then ME d l m (G f (xs.map aH) sh) else none:=(rfl)
def FN (G:aK) (d:Nat) (f:AV) (xs:List AV) (l:List (Nat × AV)) (m:List (Nat × Option (List AV))) (sh:LL):Option AS:=
 match f with
 | .fn f caps=>nL G d f (xs++caps) l m sh
 | _=>none
def U9 (G:aK) (d:Nat) (f:AV) (xs:List AV) (l:List (Nat × AV)) (m:List (Nat × Option (List AV))) (sh:LL):Option AS:=
 match f with
 | .fn f caps=>qQ G d f (xs++caps) l m sh
 | _=>none
@[go_sem] theorem PT (d:Nat) (f:FuncId) (caps xs:List AV):FN G d (.fn f caps) xs l m sh=nL G d f (xs++caps) l m sh:=(rfl)
@[go_sem] theorem RH (d:Nat) (x:AR) (args:List AR):opX G (some d) .callv (x :: args) .none none (ST l m sh)=FN G d (ev (aE .any l) x) (args.map (ev (aE .any l))) l m sh:=by
 unfold opX;simp only[map_cons,kf,tX,iM]
 cases ev (aE AV.any l) x<;>try rfl
 exact sG d _ _
def V1 (d:Nat) (l:List (Nat × AV)) (m:List (Nat × Option (List AV))) (sh:LL):Option (AV × LL)->Option AS
 | some (v,[])=>if uL v=true then some (ST (dJ l d v) m sh) else none
 | _=>none
@[go_sem] theorem KO (k:IntKind) (n:Int):aV (.int k n)=true:=(rfl)
@[go_sem] theorem KN (s:List UInt8):aV (.str s)=true:=(rfl)
@[go_sem] theorem LJ (k:IntKind) (n:Int):aP (.int k n)=true:=(rfl)
@[go_sem] theorem J7 (b:Bool):aP (.bool b)=true:=(rfl)
@[go_sem] theorem LI (s:List UInt8):aP (.str s)=true:=(rfl)
@[go_sem] theorem QG (o off n z:Nat):lA sh (.ss o off n z)=(sh[o]?).bind fun cells=>(cV off n z cells).map fun l=>.sl .no z l:=(rfl)
def sB:Option AV->Option (List AV)->Option (List AV)
 | some x,some xs=>some (x :: xs)
 | _,_=>none
@[go_sem] theorem N1 (x:AV) (xs:List AV):sB (some x) (some xs)=some (x :: xs):=(rfl)
def N4 (G:aK) (d:Nat) (f:FuncId) (ys:Option (List AV)) (l:List (Nat × AV)) (m:List (Nat × Option (List AV))) (sh:LL):Option AS:=
 ys.bind fun xs=>if gR false xs then V1 d l m sh (G f (xs.map dR) []) else none
def VA (G:aK) (d:Nat) (f:AV) (xs:List AV) (l:List (Nat × AV)) (m:List (Nat × Option (List AV))) (sh:LL):Option AS:=
 match f with
 | .fn f caps=>N4 G d f (rM sh (xs++caps)) l m sh
 | _=>none
@[go_sem] theorem VN (k:IntKind) (a b:Int):dX .and (.int k a) (.int k b)=some (.int k (k.wrap (((a % 2 ^ k.bits).toNat &&& (b % 2 ^ k.bits).toNat:Nat):Int))):=by simp [dX]
@[go_sem] theorem VO (k:IntKind) (a b:Int):dX .add (.int k a) (.int k b)=some (.int k (k.wrap (a+b))):=by simp [dX]
@[go_sem] theorem VC (k:IntKind) (a b:Int):dX .sub (.int k a) (.int k b)=some (.int k (k.wrap (a - b))):=by simp [dX]
@[go_sem] theorem VG (k:IntKind) (a b:Int):dX .mul (.int k a) (.int k b)=some (.int k (k.wrap (a*b))):=by simp [dX]
@[go_sem] theorem VE (k:IntKind) (a b:Int):dX .quo (.int k a) (.int k b)=if b=0 then none else some (.int k (k.wrap (a.tdiv b))):=by simp [dX]
@[go_sem] theorem VD (k:IntKind) (a b:Int):dX .rem (.int k a) (.int k b)=if b=0 then none else some (.int k (a.tmod b)):=by simp [dX]
@[go_sem] theorem VM (k:IntKind) (a b:Int):dX .eql (.int k a) (.int k b)=some (.bool (decide (a=b))):=by simp [dX];rfl
@[go_sem] theorem VF (k:IntKind) (a b:Int):dX .neq (.int k a) (.int k b)=some (.bool (decide (a≠b))):=by simp [dX,bne];rfl
@[go_sem] theorem VH (k:IntKind) (a b:Int):dX .lss (.int k a) (.int k b)=some (.bool (decide (a < b))):=by simp [dX]
@[go_sem] theorem VI (k:IntKind) (a b:Int):dX .leq (.int k a) (.int k b)=some (.bool (decide (a<=b))):=by simp [dX]
@[go_sem] theorem VJ (k:IntKind) (a b:Int):dX .gtr (.int k a) (.int k b)=some (.bool (decide (b < a))):=by simp [dX]
@[go_sem] theorem VK (k:IntKind) (a b:Int):dX .geq (.int k a) (.int k b)=some (.bool (decide (b<=a))):=by simp [dX]
@[go_sem] theorem FQ (a b:List UInt8):dX .add (.str a) (.str b)=if a.length+b.length<=140737488355328 then some (.str (a++b)) else none:=(rfl)
@[go_sem] theorem TQ (a b:List UInt8):dX .eql (.str a) (.str b)=some (.bool (a == b)):=(rfl)
@[go_sem] theorem TP (a b:List UInt8):dX .neq (.str a) (.str b)=some (.bool (a != b)):=(rfl)
theorem FO (F:AFun) (args:List AV) (sh:LL) (h:args.length=F.nargs):z8 G F args sh=E5 F sh (aD G F.body (ST (rG 0 args) [] sh)):=by
 unfold z8;rw[if_pos h,ET]
def BW (keep:Bool) (sh0:LL) (res:List ARes) (r:Option (AX × AS)):Option (AV × LL):=E5 ⟨0,keep,.skip,res⟩ sh0 r
def y4 (keep:Bool) (sh0:LL) (res:List ARes) (σ:AS):Option (AV × LL):=match dZ keep sh0 σ res with
  | some vs=>uW keep sh0.length vs σ.sh
  | none=>none
@[go_sem] theorem PO (keep:Bool) (sh0:LL) (res:List ARes) (σ:AS):BW keep sh0 res (some (.norm,σ))=y4 keep sh0 res σ:=(rfl)
@[go_sem] theorem SN (keep:Bool) (sh0:LL) (res:List ARes) (σ:AS):BW keep sh0 res (some (.ret,σ))=y4 keep sh0 res σ:=(rfl)
@[go_sem] theorem SO (keep:Bool) (sh0:LL) (res:List ARes) (c:Prop) [Decidable c] (x y:Option (AX × AS)):BW keep sh0 res (if c then x else y)=if c then BW keep sh0 res x else BW keep sh0 res y:=by split<;>rfl
def z7 (agg:Bool) (n:Nat) (m:List (Nat × Option (List AV))) (sh:LL):AV->Option AV
 | .loc s off=>(aE none m s).bind fun cells=>ldC agg off n cells
 | .ptr o off=>(sh[o]?).bind fun cells=>if bP cells then ldC agg off n cells else none
 | _=>none
def gX (keep:Bool) (sh0:LL) (l:List (Nat × AV)) (m:List (Nat × Option (List AV))) (sh:LL):List ARes->Option (List AV)
 | []=>some []
 | .tmp t :: rs=>sB (gE keep sh0 sh (dR (aE .any l t))) (gX keep sh0 l m sh rs)
 | .tmpD t :: rs=>sB (gE keep sh0 sh (aH (aE .any l t))) (gX keep sh0 l m sh rs)
 | .cell t agg n :: rs=>sB ((z7 agg n m sh (aE .any l t)).bind (gE keep sh0 sh)) (gX keep sh0 l m sh rs)
@[go_sem] theorem QZ (keep:Bool) (sh0:LL):gX keep sh0 l m sh []=some []:=(rfl)
@[go_sem] theorem QY (keep:Bool) (sh0:LL) (t:Nat) (rs:List ARes):gX keep sh0 l m sh (.tmp t :: rs)=sB (gE keep sh0 sh (dR (aE .any l t))) (gX keep sh0 l m sh rs):=(rfl)
@[go_sem] theorem O2 (keep:Bool) (sh0:LL) (t:Nat) (rs:List ARes):gX keep sh0 l m sh (.tmpD t :: rs)=sB (gE keep sh0 sh (aH (aE .any l t))) (gX keep sh0 l m sh rs):=(rfl)
theorem oM (keep:Bool) (sh0:LL):∀ rs,dZ keep sh0 (ST l m sh) rs=gX keep sh0 l m sh rs
 | []=>rfl
 | .tmp t :: rs=>by
  simp only[dZ,s8,Option.bind_some,gX,oM keep sh0 rs];show (match gE keep sh0 sh (dR (aE .any l t)),gX keep sh0 l m sh rs with | some v,some vs=>some (v :: vs) | _,_=>none)=_
  cases gE keep sh0 sh (dR (aE .any l t))<;>cases gX keep sh0 l m sh rs<;>rfl
 | .tmpD t :: rs=>by
  simp only[dZ,s8,Option.bind_some,gX,oM keep sh0 rs];show (match gE keep sh0 sh (aH (aE .any l t)),gX keep sh0 l m sh rs with | some v,some vs=>some (v :: vs) | _,_=>none)=_
  cases gE keep sh0 sh (aH (aE .any l t))<;>cases gX keep sh0 l m sh rs<;>rfl
 | .cell t agg n :: rs=>by
  simp only[dZ,gX,oM keep sh0 rs];have h1:s8 (ST l m sh) (.cell t agg n)=z7 agg n m sh (aE .any l t):=by
   simp only[s8,LK]
   cases aE AV.any l t<;>rfl
  rw[h1];show (match (z7 agg n m sh (aE .any l t)).bind (gE keep sh0 sh),gX keep sh0 l m sh rs with | some v,some vs=>some (v :: vs) | _,_=>none)=_
  cases (z7 agg n m sh (aE .any l t)).bind (gE keep sh0 sh)<;>cases gX keep sh0 l m sh rs<;>rfl
def CF:List AV->AV
 | [v]=>v
 | vs=>.tup vs
@[go_sem] theorem P3 (v:AV):CF [v]=v:=(rfl)
@[go_sem] theorem P4:CF []=.tup []:=(rfl)
@[go_sem] theorem OJ (v u:AV) (r:List AV):CF (v :: u :: r)=.tup (v :: u :: r):=(rfl)
def rS (k:Bool) (vs:List AV):Bool:=vs.all (jV k)
@[go_sem] theorem PB (k:Bool):rS k []=true:=(rfl)
@[go_sem] theorem MO (k:Bool) (v:AV) (vs:List AV):rS k (v :: vs)=(jV k v && rS k vs):=(rfl)
def eN (keep:Bool) (n0:Nat) (sh:LL):Bool:=keep || (sh.take n0).all fun c=>c.all (cR n0)
@[go_sem] theorem KQ (n0:Nat):eN true n0 sh=true:=(rfl)
@[go_sem] theorem KP:eN false 0 sh=true:=(rfl)
def DW (keep:Bool) (n0:Nat) (sh:LL):Option (List AV)->Option (AV × LL)
 | some vs=>if rS keep vs=true/\eN keep n0 sh=true then some (CF vs,if keep then sh else sh.take n0) else none
 | none=>none
@[go_sem] theorem MM (keep:Bool) (n0:Nat) (vs:List AV):DW keep n0 sh (some vs)=if rS keep vs=true/\eN keep n0 sh=true then some (CF vs,if keep then sh else sh.take n0) else none:=(rfl)
@[go_sem] theorem RE (keep:Bool) (sh0:LL) (res:List ARes):y4 keep sh0 res (ST l m sh)=DW keep sh0.length sh (gX keep sh0 l m sh res):=by
 unfold y4;rw[oM]
 cases gX keep sh0 l m sh res with
 | none=>rfl
 | some vs =>
  show uW keep sh0.length vs sh=_;unfold uW DW rS eN;simp only[Bool.or_eq_true];rfl
@[go_sem] theorem SM (keep:Bool) (sh0:LL) (k:IntKind) (n:Int):gE keep sh0 sh (.int k n)=some (.int k n):=(rfl)
@[go_sem] theorem PK (keep:Bool) (sh0:LL) (b:Bool):gE keep sh0 sh (.bool b)=some (.bool b):=(rfl)
@[go_sem] theorem SL (keep:Bool) (sh0:LL) (s:List UInt8):gE keep sh0 sh (.str s)=some (.str s):=(rfl)
@[go_sem] theorem UZ (keep:Bool) (sh0:LL) (o:Own) (z:Nat) (x:LL):gE keep sh0 sh (.sl o z x)=some (.sl o z x):=(rfl)
@[go_sem] theorem PJ (sh0:LL) (o off n z:Nat):gE true sh0 sh (.ss o off n z)=some (.ss o off n z):=(rfl)
@[go_sem] theorem UY (sh0:LL) (o off n z:Nat):gE false sh0 sh (.ss o off n z)=if sh0.length<=o/\dE sh0 sh=true then lA sh (.ss o off n z) else none:=(rfl)
@[go_sem] theorem UB (p:Bool) (a b c d:Nat):jV p (.ss a b c d)=p:=(rfl)
@[go_sem] theorem RG (p:Bool) (k:IntKind) (n:Int):jV p (.int k n)=true:=(rfl)
@[go_sem] theorem O9 (p b:Bool):jV p (.bool b)=true:=(rfl)
@[go_sem] theorem RF (p:Bool) (s:List UInt8):jV p (.str s)=true:=(rfl)
@[go_sem] theorem UC (p:Bool) (o:Own) (z:Nat) (x:LL):jV p (.sl o z x)=true:=(rfl)
theorem aB {B:aK} {T:FuncId->Option AFun} {f:FuncId} (F:AFun) {args:List AV} {sh:LL} {r:AV × LL} (hB:B f args sh=none) (hT:T f=some F) (hn:args.length=F.nargs)
  (h:BW F.keep sh F.res (aD (Gx B T) F.body (ST (rG 0 args) [] sh))=some r):Gx B T f args sh=some r:=by
 letI:=CN
 refine T2 hB hT ?_;rw[FO _ _ _ hn];exact h
end
end Go.Av
namespace Go.Av
variable {G:aK} {l:List (Nat × AV)} {m:List (Nat × Option (List AV))} {sh:LL}
noncomputable def nS (G:aK) (L:ACode) (kill:List Nat) (r:Option (AX × AS)):Option (AX × AS):=match r with
 | some (.norm,σ')=>aD G L (forget kill σ')
 | r=>r
theorem uK (a:List Nat) (v:AV):aQ a (aQ a v)=aQ a v:=by
 cases v with
 | loc s o=>by_cases h:s∈a<;>simp [aQ,h]
 | _=>rfl
theorem vK (kill:List Nat) (σ:AS):forget kill (forget kill σ)=forget kill σ:=by
 unfold forget;simp only[AS.mk.injEq,and_true];refine⟨?_,?_⟩
 ·funext t
  by_cases h:t∈kill
  ·simp [h]
  ·simp [h,uK]
 ·funext t
  by_cases h:t∈kill<;>simp [h]
theorem aA {L:ACode} {kill:List Nat} {a:ACode} (h:L=.loop kill a) (l:List (Nat × AV)) (m:List (Nat × Option (List AV))) (sh:LL) :
  aD G L (ST l m sh)=nS G L kill (aD G a (ST (f8 kill l) (fF kill m) sh)):=by
 subst h;rw[OH];have hf:∀ σ,aD G (.loop kill a) σ=aD G (.loop kill a) (forget kill σ):=by
  intro σ;show qE (fun σ=>aD G a (forget kill σ)) σ=qE (fun σ=>aD G a (forget kill σ)) (forget kill σ);rw[@qD CN,@qD CN _ (forget kill σ)];simp only[vK]
 cases aD G a (ST (f8 kill l) (fF kill m) sh) with
 | none=>rfl
 | some r =>
  obtain⟨x,σ⟩:=r
  cases x with
  | norm=>exact hf σ
  | _=>rfl
@[go_sem] theorem MY (L:ACode) (kill:List Nat) (l:List (Nat × AV)) (m:List (Nat × Option (List AV))) (sh:LL):nS G L kill (some (.norm,ST l m sh))=aD G L (ST (f8 kill l) (fF kill m) sh):=by
 rw[<- nF];rfl
@[go_sem] theorem RX (L:ACode) (kill:List Nat) (i:Nat) (σ:AS):nS G L kill (some (.ex i,σ))=some (.ex i,σ):=(rfl)
@[go_sem] theorem PD (L:ACode) (kill:List Nat) (σ:AS):nS G L kill (some (.ret,σ))=some (.ret,σ):=(rfl)
@[go_sem] theorem MZ (L:ACode) (kill:List Nat):nS G L kill none=none:=(rfl)
@[go_sem] theorem PE (L:ACode) (kill:List Nat) (c:Prop) [Decidable c] (x y:Option (AX × AS)):nS G L kill (if c then x else y)=if c then nS G L kill x else nS G L kill y:=by split<;>rfl
@[go_sem] theorem I1:(none:Option (List AV)).isNone=true:=(rfl)
def z5:Option (List AV)->Option LL->Option LL
 | some r,some rs=>some (r :: rs)
 | _,_=>none
def dL (z:Nat):List AV->Option LL
 | []=>some []
 | x :: xs=>z5 (bD z x) (dL z xs)
@[go_sem] theorem MU (z:Nat):dL z []=some []:=(rfl)
@[go_sem] theorem KW (z:Nat) (x:AV) (xs:List AV):dL z (x :: xs)=z5 (bD z x) (dL z xs):=(rfl)
@[go_sem] theorem N0 (r:List AV) (rs:LL):z5 (some r) (some rs)=some (r :: rs):=(rfl)
theorem mI {n:Nat} {x:AV} {cs:List AV} (h:bD n x=some cs):cs.length=n:=by
 unfold bD at h
 split at h
 ·split at h
  ·cases h;assumption
  ·cases h
 ·split at h
  ·cases h;rename_i h1;simp [h1.1]
  ·cases h
theorem pU {z:Nat}:∀ {xs:List AV} {rs:LL},dL z xs=some rs->rs.length=xs.length/\∀ r∈rs,r.length=z
 | [],rs,h=>by cases h;simp
 | x :: xs,rs,h=>by
  simp only[dL] at h;cases h1:bD z x with
  | none=>rw[h1] at h;cases h
  | some r =>
   cases h2:dL z xs with
   | none=>rw[h1,h2] at h;cases h
   | some rs' =>
    rw[h1,h2] at h;cases h
    have:=pU h2
    have h3:=mI h1;simp only[length_cons,this.1,true_and,mem_cons,forall_eq_or_imp];exact⟨h3,this.2⟩
theorem lI (z:Nat):∀ (rs:LL),(∀ r∈rs,r.length=z)->cK z rs.length rs.flatten=rs
 | [],_=>rfl
 | r :: rs,h=>by
  have h1:=h r (by simp);have h2:=lI z rs (fun r hr=>h r (by simp [hr]));show ((r :: rs).flatten).take z :: cK z rs.length (((r :: rs).flatten).drop z)=_;rw[flatten_cons,take_left' h1,drop_left' h1,h2]
theorem nW {z:Nat} {zero:List AV} (hz:zero.length=z):∀ (xs:List AV) (pre:List AV) (k:Nat),pre.length=k*z ->
  dO (pre++aT zero xs.length) ((List.range' k xs.length).map fun i=>(i*z,z)) xs=(dL z xs).map fun rs=>pre++rs.flatten
 | [],pre,k,h=>by simp [dO,dL,aT]
 | x :: xs,pre,k,h=>by
  simp only[length_cons,range'_succ,map_cons,dO,dL];cases h1:bD z x with
  | none=>cases h3:dL z xs<;>rfl
  | some cs =>
   have hc:=mI h1;have h2:dW (k*z) cs (pre++aT zero (xs.length+1))=some ((pre++cs)++aT zero xs.length):=by
    rw[show aT zero (xs.length+1)=zero++aT zero xs.length from rfl];unfold dW;rw[if_pos (by simp only[length_append];omega)];rw[take_left' h,<- append_assoc pre zero,drop_left' (by simp [hc,h,hz])]
   simp only[h2];rw[nW hz xs (pre++cs) (k+1) (by simp [h,hc,Nat.add_mul])]
   cases dL z xs with
   | none=>rfl
   | some rs=>simp [z5]
theorem m0 {z:Nat} {zero:List AV} {len:Nat} {pl:List Nat} {xs:List AV} (hz:zero.length=z) (hl:xs.length=len) (hp:pl=List.range' 0 len) :
  fD z zero len pl xs=(dL z xs).map fun rs=>.sl .full z rs:=by
 subst hl;subst hp;unfold fD;rw[show aT zero xs.length=[]++aT zero xs.length from rfl,nW hz xs [] 0 (by simp)];cases h:dL z xs with
 | none=>rfl
 | some rs =>
  have:=pU h
  simp only[Option.map_some,nil_append];rw[<- this.1,lI z rs this.2]
@[go_sem] theorem US (c0 x0:AV):fD 1 [c0] 1 [0] [x0]=(dL 1 [x0]).map fun rs=>.sl .full 1 rs:=m0 rfl rfl rfl
@[go_sem] theorem UR (c0 c1 c2 x0:AV):fD 3 [c0,c1,c2] 1 [0] [x0]=(dL 3 [x0]).map fun rs=>.sl .full 3 rs:=m0 rfl rfl rfl
@[go_sem] theorem UQ (c0 c1 c2 x0 x1:AV):fD 3 [c0,c1,c2] 2 [0,1] [x0,x1]=(dL 3 [x0,x1]).map fun rs=>.sl .full 3 rs:=m0 rfl rfl rfl
theorem bH {bytes n:Nat} (h1:bytes<=100000) (h2:n<=1000000000):cG bytes n=true:=by
 have:n*bytes<=1000000000*100000:=Nat.mul_le_mul h2 h1
 simp only[cG,decide_eq_true_eq];omega
theorem bV (md o:Own) (hm:md≠.no) (z bytes:Nat) (hz:0 < z) (x y:LL) :
  oA false z bytes (.sl md z x) (.sl o z y)=if cG bytes (x.length+y.length)=true then some (.sl .own z (x++y)) else none:=by
 simp [oA,i7,cG,hm,hz]
def E6 (cells:Option (List AV)) (pl:List (Nat × Nat)) (xs:List AV):Option (List AV):=cells.bind fun c=>dO c pl xs
@[go_sem] theorem PP (cells:List AV):dO cells [] []=some cells:=(rfl)
@[go_sem] theorem NS (cells:List AV) (off n:Nat) (pl:List (Nat × Nat)) (x:AV) (xs:List AV):dO cells ((off,n) :: pl) (x :: xs)=E6 ((bD n x).bind fun cs=>dW off cs cells) pl xs:=by
 simp only[dO,E6]
 cases bD n x with
 | none=>rfl
 | some cs=>simp only[Option.bind_some];cases dW off cs cells<;>rfl
@[go_sem] theorem NR (c:List AV) (pl:List (Nat × Nat)) (xs:List AV):E6 (some c) pl xs=dO c pl xs:=(rfl)
def W2 (cells:Option (List AV)) (pl:List (Nat × Nat)) (xs:List AV):Option (List AV):=cells.bind fun c=>qM c pl xs
def fX:Nat->List AV->List AV->Option (List AV)
 | _,[],cells=>some cells
 | _,_ :: _,[]=>none
 | 0,c :: cs,_ :: r=>(fX 0 cs r).map fun t=>c :: t
 | n+1,c :: cs,x :: r=>(fX n (c :: cs) r).map fun t=>x :: t
theorem w7:∀ (n:Nat) (cs cells:List AV),cs≠[]->dW n cs cells=fX n cs cells
 | _,[],_,h=>absurd rfl h
 | n,c :: cs,[],_=>by simp [dW,fX]
 | 0,[c],x :: r,_=>by simp [dW,fX]
 | 0,c :: c2 :: cs,x :: r,_=>by
  have:=w7 0 (c2 :: cs) r (by simp)
  simp only[fX];rw[<- this];unfold dW;simp only[length_cons,Nat.zero_add,take_zero,nil_append,Nat.add_le_add_iff_right]
  split<;>simp
 | n+1,c :: cs,x :: r,_=>by
  have:=w7 n (c :: cs) r (by simp)
  simp only[fX];rw[<- this];unfold dW;simp only[length_cons];by_cases h:n+(cs.length+1)<=r.length
  ·rw[if_pos h,if_pos (by omega)]
   simp [show n+1+(cs.length+1)=n+(cs.length+1)+1 by omega]
  ·rw[if_neg h,if_neg (by omega)];rfl
@[go_sem] theorem Q6 (n:Nat) (c:AV) (cs cells:List AV):dW n (c :: cs) cells=fX n (c :: cs) cells:=w7 _ _ _ (by simp)
@[go_sem] theorem uQ (n:Nat) (cells:List AV):fX n [] cells=some cells:=by cases n<;>simp [fX]
@[go_sem] theorem DP (c x:AV) (cs r:List AV):fX 0 (c :: cs) (x :: r)=(fX 0 cs r).map fun t=>c :: t:=(rfl)
@[go_sem] theorem w6 (n:Nat) (c x:AV) (cs r:List AV):fX (n+1) (c :: cs) (x :: r)=(fX n (c :: cs) r).map fun t=>x :: t:=(rfl)
def tV:Own->Own
 | .own=>.no
 | o=>o
@[go_sem] theorem S6:tV .own=.no:=(rfl)
@[go_sem] theorem U8:tV .no=.no:=(rfl)
@[go_sem] theorem PS:tV .full=.full:=(rfl)
theorem JL (o:Own) (z:Nat) (x:LL):aH (.sl o z x)=.sl (tV o) z x:=by cases o<;>rfl
def mdK (o:Own):Nat->Own
 | 0=>o
 | _+1=>.own
theorem fP {n:Int} (h:0<=n):rV n=some n.toNat:=by simp [rV,h]
@[go_sem] theorem T9 (md:Own) (z:Nat) (x:LL) (k:IntKind) (n:Int) (h:0<=n) (h2:n<=(x.length:Int)):b8 false z (.sl md z x) none (some (.int k n))=some (.sl .no z (x.take n.toNat)):=by
 simp only[b8,cQ,fP h];rw[if_pos ⟨by omega,by omega,.inl trivial⟩];simp
@[go_sem] theorem T8 (md:Own) (z:Nat) (x:LL) (k:IntKind) (n:Int) (h:0<=n) (h2:n<=(x.length:Int)):b8 false z (.sl md z x) (some (.int k n)) none=some (.sl .no z (x.drop n.toNat)):=by
 simp only[b8,cQ,fP h];rw[if_pos ⟨by omega,by omega,.inl trivial⟩];simp
@[go_sem] theorem HV (z:Nat) (x:List UInt8) (k:IntKind) (n:Int) (h:0<=n) (h2:n<=(x.length:Int)):b8 true z (.str x) none (some (.int k n))=some (.str (x.take n.toNat)):=by
 simp only[b8,cQ,fP h];rw[if_pos ⟨by omega,by omega⟩];simp
@[go_sem] theorem HU (z:Nat) (x:List UInt8) (k:IntKind) (n:Int) (h:0<=n) (h2:n<=(x.length:Int)):b8 true z (.str x) (some (.int k n)) none=some (.str (x.drop n.toNat)):=by
 simp only[b8,cQ,fP h];rw[if_pos ⟨by omega,by omega⟩];simp
@[go_sem] theorem rN (z:Nat) (x:List UInt8) (k k':IntKind) (n j:Int) (h:0<=n) (h1:n<=j) (h2:j<=(x.length:Int)):b8 true z (.str x) (some (.int k n)) (some (.int k' j))=some (.str ((x.take j.toNat).drop n.toNat)):=by
 simp only[b8,cQ,fP h,fP (Int.le_trans h h1)];rw[if_pos ⟨by omega,by omega⟩]
theorem w64 {n:Int} (h1:-9223372036854775808<=n) (h2:n<=9223372036854775807):IntKind.i64.wrap n=n:=IntWalk.i64_in n ⟨h1,h2⟩
end Go.Av
namespace Go.Av
variable [Gtab]
open Go.ChangeShapes Go.WideShapes Go.ChangeAt Go.RowKit
section
variable {H:Type} {enc:TypeId × Value->H} {P:Program}
theorem jZ {W W':World} {sp:Nat->Bool} (hl:laidOutB P=true) (hb:Below W.heap.size W W') :
  ∀ {ts:List TypeId} {vs:List Value} {ds:List (DataW H)} {ps:List MemPlace},(ts.all fun t=>P.readableRec t && decide (t < P.types.size))=true ->
  DataW.TrodAll enc P W 0 (fun _=>true) true ts vs ds ps->(∀ p∈ps,p.block < W.heap.size)->(∀ p∈ps,sp p.block=true)->DataW.TrodAll enc P W' 0 sp true ts vs ds ps
 | [],_,_,_,_,h,_,_=>by
  obtain⟨rfl,rfl,rfl⟩:=trodAll_nil h;exact trodAll_mk0
 | t :: ts,_,_,_,ha,h,hlt,hs=>by
  obtain⟨v,vs,d,ds,p,q,rfl,rfl,rfl,h1,h2⟩:=trodAll_cons h;simp only[all_cons,Bool.and_eq_true,decide_eq_true_eq] at ha;refine⟨p,q,?_,?_,rfl⟩
  ·exact WideElems.Trod_stays hl ha.1.1 ha.1.2 h1 (fun x hx=>hb.same (hlt x (by simp [hx]))) (fun x hx=>hs x (by simp [hx]))
  ·exact jZ hl hb ha.2 h2 (fun x hx=>hlt x (by simp [hx])) (fun x hx=>hs x (by simp [hx]))
theorem w8 {f:Func} {s:ChangeSpec} {apart fresh handsOn again:Bool} {W W':World} {args:Array Value} {v:Value} {ds gs:List (DataW H)} {before pa pv:List MemPlace}
  (hW:DataW.Whole enc P f.params.toList s.vars apart W args.toList ds gs before)
  (hres:∀ (b:Nat) (sp:Nat->Bool) (hd:Bool),DataW.TrodAll enc P W' b sp hd f.resultTypes.toList (v.resultList f.resultTypes.size) (s.fn H (ds++gs)).results [])
  (hargs:∀ sp:Nat->Bool,(∀ p∈before,sp p.block=true)->DataW.TrodAll enc P W' 0 sp true f.params.toList args.toList (s.fn H (ds++gs)).args pa)
  (hvars:∀ sp:Nat->Bool,(∀ p∈before,sp p.block=true)->DataW.TrodVars enc P W' sp s.vars (s.fn H (ds++gs)).vars pv)
  (hps:before=pa++pv) (hb:Below W.heap.size W W')
  (hok:∀ (j:Nat) (t:TypeId) (r:Value),f.resultTypes[j]?=some t->(v.resultList f.resultTypes.size)[j]?=some r->Value.okWide P W' .any 0 t r) :
  s.post enc P f apart fresh handsOn again W args v W':=by
 have hold:∀ p∈before,(fun b=>decide (b < W.heap.size)) p.block=true:=fun p hp=>by simpa using hW.lt p hp
 refine⟨ds,gs,before,[],pa,pv,hW,hres _ _ _,hargs _ hold,hvars _ hold,World.keptBut_mono (fun p hp=>⟨hp,?_⟩) (hb.frame (·∈before)),fun _=>?_⟩
 ·rw[hps,mem_append] at hp
  exact Or.inr hp
 ·have hW2:=hW
  obtain⟨_,_,_,_,_,hz,hn⟩:=hW;refine⟨hok,_,_,([]++pa)++pv,⟨[]++pa,pv,trodAll_append (hargs _ (fun _ _=>rfl)) (hres _ _ _),hvars _ (fun _ _=>rfl),rfl,?_,?_⟩,?_⟩
  ·intro b off hp
   have hp':MemPlace.cell b off∈before:=by rw[hps];simpa using hp
   rw[hb.frozen (p:=⟨b,off,none⟩) (hW2.lt _ hp')];exact hz b off hp'
  ·intro ha
   have:=hn ha
   rw[hps] at this;simpa using this
  ·intro p hp _
   rw[hps];simpa using hp
theorem vC {f:Func} {n:Nat} {s:ChangeSpec} {W:World} {args:Array Value} {ds gs:List (DataW H)} {before:List MemPlace} {apart fresh handsOn again:Bool} {tb:TypeId} {G:aK} {avs:List AV}
  (hW:DataW.Whole enc P f.params.toList s.vars apart W args.toList ds gs before) (hv:s.vars=[]) (hl:laidOutB P=true)
  (hpar:(f.params.toList.all fun t=>P.readableRec t && decide (t < P.types.size))=true) (hrt:f.resultTypes=#[tb]) (htb:P.underlying tb=some .bool)
  (hG:gV P G) (hrep:aI (aL (cx0 (fun _=>0) (fun _=>0) (fun b _=>b < W.heap.size) W 0) aN) avs args.toList)
  (hg:G n avs []=some (.bool true,[])) (hfn:s.fn H ds={ results:=[.lit (.bool true)],args:=ds }) (hreal:v9 P n) (hgl:nO (fun b _=>b < W.heap.size) W) :
  Calls P n args W fun e W'=>∃ v,e=.returned v/\s.post enc P f apart fresh handsOn again W args v W':=by
 have hsem:gM P n avs [] (.bool true) []:=by
  rcases hG _ _ _ _ _ hg with h | hx
  ·exact h.2
  ·intro kd β bs S0 O0 w vs he hr
   obtain⟨v,w',_,_,_,hrn,_⟩:=hx kd β bs S0 O0 w vs he hr;rw[eQ hreal] at hrn;cases hrn
 have hS:=hsem (fun _=>.stab) (fun _=>0) (fun _=>0) (fun b _=>b < W.heap.size) (fun _=>none) W args (NT (fun b n hb=>hb) hgl) hrep;refine hS.mono ?_
 rintro e W' ⟨v,kd',β',bs',rfl,ha⟩
 have hr:=ha.rep;have hv':v=.bool true:=by simpa [aL,aJ,aC] using hr
 subst hv';have hb:Below W.heap.size W W':=⟨ha.os,ha.tape,ha.output,ha.size,fun k hk=>ha.frame k hk (fun i hi=>by simp at hi) rfl⟩
 refine⟨_,rfl,?_⟩;have hW2:=hW;obtain⟨p,q,hA,hV,hpq,_,_⟩:=hW2;rw[hv] at hV;obtain⟨rfl,rfl⟩:=trodVars_none hV;rw[append_nil] at hpq;subst hpq;have e1:(s.fn H (ds++[])).results=[.lit (.bool true)]:=by rw[append_nil,hfn]
 have e2:(s.fn H (ds++[])).args=ds:=by rw[append_nil,hfn]
 have e3:(s.fn H (ds++[])).vars=[]:=by rw[append_nil,hfn]
 have hsz:f.resultTypes.size=1:=by rw[hrt];rfl
 refine w8 (pa:=before) (pv:=[]) hW ?_ ?_ ?_ (by simp) hb ?_
 ·intro b sp hd
  rw[e1,hsz,hrt];exact trodAll_cons_mk (shut_bool htb true) trodAll_mk0
 ·intro sp hsp
  rw[e2];exact jZ hl hb hpar hA (fun p hp=>hW.lt p hp) hsp
 ·intro sp _
  rw[hv,e3];exact rfl
 ·exact ok_one hrt rfl (okWide_bool_mk htb true)
variable {w:World} {base:Nat} {spare:Nat->Bool} {held:Bool}
theorem sY {a:Addr} {u:Value} (h:w.cell? a=some u):a.spot=none:=by
 unfold World.cell? at h
 split at h
 ·split at h
  ·cases h
  ·rename_i hs;simpa using hs
 ·cases h
theorem uO {S:Nat->Nat->Prop} {k:IntKind} (b:Nat):∀ (l:List Int) (o:Nat),(∀ i,i < l.length->S b (o+i)/\w.cell? ⟨b,o+i,none⟩=some (.int k (l.getD i 0)))->dT S w 1 (l.map fun x=>[.int k x]) b o
 | [],o,_=>by simp [dT]
 | x :: l,o,h=>by
  have h0:=h 0 (by simp);simp only[map_cons,dT,cZ,length_cons,length_nil,Nat.zero_add,and_true,true_and];refine⟨⟨h0.1,_,h0.2,rfl⟩,?_⟩;exact uO b l (o+1) fun i hi=>by
   have:=h (i+1) (by simp;omega)
   rw[show o+1+i=o+(i+1) by omega];simpa using this
theorem DH {r:Reach} {b0 n:Nat} {t e:TypeId} {k:IntKind} {v:Value} {d:DataW H} {ps:List MemPlace} {ow:Value->Nat->Nat->Prop} (ht:P.underlying t=some (.slice e)) (he:P.underlying e=some (.int k)) (hc:P.cellsOf e=1)
  (hval:Value.okWide P w r b0 t v) (hd:DataW.Trod enc P w base spare held t v d ps) :
  ∃ l:List Int,aL (cx0 (fun _=>0) (fun _=>0) (fun b _=>b < w.heap.size) w n) ow (.sl .no 1 (l.map fun x=>[.int k x])) v:=by
 obtain⟨a0,len,cap,rfl⟩:=okWide_slice ht hval;obtain⟨fuel,hf⟩:=hd;rcases open_ints ht he hc hf with ⟨hcs,hx⟩ | ⟨a,len',cap',zs,hcs,_,hl,hm,hz,hx,hcell,hwz⟩
 ·simp [Value.cells] at hcs
  obtain⟨rfl,rfl,rfl⟩:=hcs;refine⟨[],?_⟩;simp only[aL,aJ,aC];exact⟨none,0,rfl,Nat.le_refl _,by simp,by simp,.inl rfl⟩
 ·simp [Value.cells] at hcs
  obtain⟨rfl,rfl,rfl⟩:=hcs;have hlen:len<=zs.length:=by rw[hz];split<;>omega
  refine⟨zs.take len,?_⟩;simp only[aL,aJ,aC];have hl2:((zs.take len).map fun x=>([.int k x]:List AV)).length=len:=by simp;omega
  refine⟨some a,cap,by rw[hl2],by rw[hl2];omega,by simp,by simp,?_⟩;by_cases h0:len=0
  ·left;subst h0;simp
  ·right
   have c0:=hcell 0 (by omega);have hsp:a.spot=none:=sY (by simpa [Addr.add] using c0);obtain⟨b,o,sp⟩:=a;simp only at hsp;subst hsp;refine⟨b,o,rfl,uO b _ _ fun i hi=>?_⟩;have hi':i < len:=by simpa [Nat.lt_min] using (show i < (zs.take len).length from hi) |> fun h=>by simp at h;omega
   have ci:=hcell i (by omega);have e1:(⟨b,o,none⟩:Addr).add i=⟨b,o+i,none⟩:=by
    unfold Addr.add;split
    ·rename_i h;subst h;rfl
    ·rfl
   rw[e1] at ci;refine⟨World.block_lt_of_cell? w _ ci,?_⟩;show w.cell? _=_;rw[ci];simp [getD_eq_getElem?_getD,hi']
theorem yS {r:Reach} {b0 n:Nat} {t:TypeId} {k:IntKind} {v:Value} {d:DataW H} {ps:List MemPlace} {ow:Value->Nat->Nat->Prop} (ht:P.underlying t=some (.int k))
  (hval:Value.okWide P w r b0 t v) (hd:DataW.Trod enc P w base spare held t v d ps) :
  ∃ x:Int,(Lit.int k x).wf=true/\aL (cx0 (fun _=>0) (fun _=>0) (fun b _=>b < w.heap.size) w n) ow (.int k x) v:=by
 obtain⟨x,rfl,_,_,hw⟩:=open_int ht hval hd;exact⟨x,hw,by simp [aL,aJ,aC]⟩
end
end Go.Av
namespace Go.Av
variable [Gtab]
open Go.RowKit
section
variable {P:Program}
noncomputable abbrev GN:aK:=Gx (fun _ _ _=>none) (fun _=>none)
def oX (z:Nat):ACode:=.reg false [] [⟨some 2,.mv,[.c (.sl .full z [])],.none,none,none⟩] []
def JQ (z bytes:Nat) (zero:List AV):ACode:=.seq (.reg false [] [
 ⟨some 5,.mks z zero 0 [],[],.none,none,none⟩,
 ⟨some 6,.mv,[.t 0],.none,none,none⟩,
 ⟨some 7,.appS false z bytes,[.t 5,.t 6],.sh,none,none⟩,
 ⟨some 2,.mvo,[.t 7],.none,some 7,none⟩] []) .ret
def zS (P:Program) (x:Operand):Op->Bool
 | .binOp .eql t y (.const (.slice none 0 0)) _=>(match x,y with | .tmp i,.tmp j=>i == j | _,_=>false) && (match P.underlying t with | some (.slice _)=>true | _=>false)
 | _=>false
def UM (P:Program) (f:FuncId) (z bytes:Nat) (zero:List AV):Bool:=
 match P.funcs[f]? with
 | some fn=>(match fn.body with
  | some (.seq c0 (.seq (.seq (.region _ ops false) (.cond (.tmp 4) x .skip)) rest)) =>
   c8 P fn.ntmps c0 (oX z) && (match ops.toList with
     | [o3,o4]=>okO P fn.ntmps ops o3 ⟨some 3,.mv,[.t 0],.none,none,none⟩ && o4.dst == some 4 && o4.guard.isNone && zS P (.tmp 3) o4.op
     | _=>false) && c8 P fn.ntmps x (.seq (oX z) .ret) && c8 P fn.ntmps rest (JQ z bytes zero)
  | _=>false) && decide (8<=fn.ntmps) && eP P fn.results.toList [.tmpD 2] && !(fn.name == "runtime.NumGoroutine")
 | none=>false
def N3 (z:Nat) (l:LL) (sh:LL):AV × List (List AV):=
 match l with
 | []=>(.sl .full z [],sh)
 | r :: l=>(.ss sh.length 0 (l.length+1) z,sh++[(r :: l).flatten])
end
def XT (z bytes:Nat):List AV->LL->Option (AV × LL)
 | [.sl _ z' l],sh=>if z'=z/\cG bytes l.length=true then some (N3 z l sh) else none
 | _,_=>none
end Go.Av
namespace Go.Av
variable [Gtab]
open Go.RowKit
section
variable {P:Program}
theorem After.same0 {sh:LL} {kd:Nat->BK} {β bs:Nat->Nat} {S0:Nat->Nat->Prop} {O0:Nat->Option Nat} {w:World} (h:n7 sh kd β bs S0 O0 w) {r:AV} {v:Value} (hr:aL (cx0 β bs (S1 S0 w w kd) w sh.length) aN r v) :
  After S0 O0 β bs w sh sh r v kd β bs w:=by
 obtain⟨⟨e1,e2⟩,e3,e4,e5,_⟩:=h;have hle:Cx.le (cx0 β bs S0 w sh.length) (cx0 β bs (S1 S0 w w kd) w sh.length):=⟨fun b o hS=>⟨.inl hS,rfl⟩,Nat.le_refl _,fun _ _=>rfl,fun _ _=>rfl,fun s hs=>hs.elim⟩
 refine { same:=fun _ _=>⟨rfl,rfl⟩,len:=Nat.le_refl _,shok:=⟨fun i cells hi hd=>?_,e2⟩,rep:=hr,os:=rfl,tape:=rfl,output:=rfl,size:=Nat.le_refl _,frame:=fun _ _ _ _=>rfl,sframe:=fun _ _ _=>rfl,o0:=fun b k hk=>?_,own0:=fun b t k hk=>?_,new:=fun i h1 h2=>by omega,deads:=fun _ h=>h }
 ·obtain⟨f1,f2⟩:=e1 i cells hi hd
  exact⟨f1,f2.mono hle rfl (fun _ _ _ _ _ h=>h)⟩
 ·exact (e4 b k hk).2.2
 ·rcases Nat.lt_or_ge b w.heap.size with hb | hb
  ·exact .inr (e5 b t k hk hb)
  ·exact .inl hb
def ibB (f0:Nat):aK:=fun f args sh=>if f=f0 then (match args with
 | [.str s,.int .u8 c]=>some (.int .i64 (Lib.indexByte s c.toNat.toUInt8),sh)
 | _=>none) else none
theorem BU {f0:FuncId} {fn:Func} (hf:P.funcs[f0]?=some fn) (hname:(fn.name == "runtime.NumGoroutine")=false) (hb:fn.body.isNone=true) (hn:Extern.findNext fn=none)
  (he:Extern.find fn=some Extern.BytealgIndexByte.indexByte):gV P (ibB f0):=by
 intro f args sh r sh' h;unfold ibB at h
 split at h
 ·rename_i hff
  subst hff
  split at h
  ·rename_i s c
   simp only[Option.some.injEq,Prod.mk.injEq] at h;obtain⟨rfl,rfl⟩:=h
   refine .inr ?_
   intro kd β bs S0 O0 w vs hent hargs;obtain⟨xs⟩:=vs;have hl2:=hargs.length;simp at hl2
   match xs,hl2 with
   | [u,v],_ =>
    obtain⟨h1,h2,_⟩:=hargs;obtain⟨b,rfl,rfl⟩:∃ b,u=.string b/\b.data.toList=s:=h1;have h2':v=.int .u8 c:=h2;subst h2';refine⟨.int .i64 (Lib.indexByte b.data.toList c.toNat.toUInt8),w,kd,β,bs,?_,After.same0 hent rfl⟩;rw[run_callFunc_extern hf hname hb hn he]
    have:(#[.string b,.int .u8 c]:Array Value)=⟨[.string b,.int .u8 c]⟩:=rfl
    rw[<- this];show ((Extern.BytealgIndexByte.indexByte #[.string b,.int .u8 c]).run P w).andThen _=_;rw[Lib.run_indexByteString];rfl
  ·cases h
 ·cases h
end
end Go.Av
namespace Go.Av
@[go_sem] theorem W5 {α:Type} (a b:α) (l:List α):(a :: l).set 0 b=b :: l:=(rfl)
@[go_sem] theorem U3 {α:Type} (n:Nat):([]:List α).take n=[]:=take_nil
@[go_sem] theorem XH (p:Prop):(p/\False)=False:=and_false p
@[go_sem] theorem XD (p:Prop):(False/\p)=False:=false_and p
@[go_sem] theorem XF (p:Prop):(p/\True)=p:=and_true p
@[go_sem] theorem W4 (p:Prop):(True/\p)=p:=true_and p
@[go_sem] theorem YQ (p:Prop) [Decidable p]:(decide p=true)=p:=decide_eq_true_eq
@[go_sem] theorem YS {α:Type} [BEq α] [ReflBEq α] (a:α):(a == a)=true:=beq_self_eq_true a
@[go_sem] theorem YR {α:Type} [BEq α] [LawfulBEq α] (a:α):(a != a)=false:=bne_self_eq_false a
@[go_sem] theorem XA {α β:Type} (f:α->β) (a:α) (l:List α):(a :: l).map f=f a :: l.map f:=(rfl)
@[go_sem] theorem W9 {α β:Type} (f:α->β):([]:List α).map f=[]:=(rfl)
@[go_sem] theorem ZJ (b:Bool):(b && true)=b:=Bool.and_true b
@[go_sem] theorem ZB (b:Bool):(true && b)=b:=Bool.true_and b
@[go_sem] theorem ZK (b:Bool):(b && false)=false:=Bool.and_false b
@[go_sem] theorem ZG (b:Bool):(false && b)=false:=Bool.false_and b
@[go_sem] theorem ZL (b:Bool):(b && b)=b:=Bool.and_self b
@[go_sem] theorem XG (p:Prop):(p/\p)=p:=and_self p
@[go_sem] theorem ZE {α:Type} (a b:α):(a≠b)=¬ (a=b):=(rfl)
@[go_sem] theorem ZC:(¬ True)=False:=not_true_eq_false
@[go_sem] theorem ZD:(¬ False)=True:=not_false_eq_true
@[go_sem] theorem ZI (h:Decidable False):@decide False h=false:=decide_false h
@[go_sem] theorem ZH (h:Decidable True):@decide True h=true:=decide_true h
@[go_sem] theorem ZF:(false=true)=False:=Bool.false_eq_true
@[go_sem] theorem W8 {α β:Type} (f:α->β) (a:α):(some a).map f=some (f a):=(rfl)
@[go_sem] theorem U4 {α β:Type} (f:α->Option β) (a:α):(some a).bind f=f a:=(rfl)
@[go_sem] theorem XC {α:Type}:([]:List α).length=0:=(rfl)
@[go_sem] theorem XB {α:Type} (a:α) (l:List α):(a :: l).length=l.length+1:=(rfl)
@[go_sem] theorem XE {α:Type} (l:List α):l++[]=l:=append_nil l
@[go_sem] theorem XI {α:Type} (l:List α):[]++l=l:=(rfl)
@[go_sem] theorem XJ {α:Type} (a:α) (l m:List α):(a :: l)++m=a :: (l++m):=(rfl)
@[go_sem] theorem U2 (n:Nat):((n:Int)).toNat=n:=Int.toNat_natCast n
@[go_sem] theorem e_z (n:Nat):0+n=n:=Nat.zero_add n
@[go_sem] theorem ZA (n:Int):0+n=n:=Int.zero_add n
@[go_sem] theorem W6:(!true)=false:=(rfl)
@[go_sem] theorem W7:(!false)=true:=(rfl)
@[go_sem] theorem YO {n:Int} (h1:-9223372036854775808<=n) (h2:n<=9223372036854775807):IntKind.i64.wrap n=n:=w64 h1 h2
@[go_sem] theorem YP (o:Own) (z:Nat) (x:LL):aH (.sl o z x)=.sl (tV o) z x:=JL o z x
end Go.Av
namespace Go.Av
variable [Gtab]
open Go.RowKit
section
variable {P:Program}
def JP (z bytes:Nat) (zero:List AV):ACode:=.seq (.reg false [] [
 ⟨some 5,.mks z zero 0 [],[],.none,none,none⟩,
 ⟨some 6,.mv,[.t 0],.none,none,none⟩,
 ⟨some 7,.app false z bytes,[.t 5,.t 6],.none,some 5,none⟩,
 ⟨some 2,.mvo,[.t 7],.none,some 7,none⟩] []) .ret
def RP (P:Program) (f:FuncId) (z bytes:Nat) (zero:List AV):Bool:=
 match P.funcs[f]? with
 | some fn=>(match fn.body with
  | some (.seq c0 (.seq (.seq (.region _ ops false) (.cond (.tmp 4) x .skip)) rest)) =>
   c8 P fn.ntmps c0 (oX z) && (match ops.toList with
     | [o3,o4]=>okO P fn.ntmps ops o3 ⟨some 3,.mv,[.t 0],.none,none,none⟩ && o4.dst == some 4 && o4.guard.isNone && zS P (.tmp 3) o4.op
     | _=>false) && c8 P fn.ntmps x (.seq (oX z) .ret) && c8 P fn.ntmps rest (JP z bytes zero)
  | _=>false) && decide (8<=fn.ntmps) && eP P fn.results.toList [.tmp 2] && !(fn.name == "runtime.NumGoroutine")
 | none=>false
end
def XS (z bytes:Nat):List AV->LL->Option (AV × LL)
 | [.sl _ z' l],sh=>if z'=z/\cG bytes l.length=true then some (.sl .no z l,sh) else none
 | _,_=>none
end Go.Av
