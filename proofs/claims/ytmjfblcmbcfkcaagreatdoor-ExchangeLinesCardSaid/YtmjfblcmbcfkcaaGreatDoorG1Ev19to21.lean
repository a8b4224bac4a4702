/- A part of the frame (Ev19 Ev20 Ev21). No conditions. -/
import Derived.Test.YtmjfblcmbcfkcaaGreatDoorG1Ev14to18
import Derived.Attr
import Derived.IntWalk
import Derived.WalkKit
import Derived.ProofKit
import Derived.OpenShut
import Derived.Below
import Derived.Carry
import Derived.Lib.SmallJoins
open List
set_option linter.unusedSimpArgs false
set_option linter.unusedVariables false
set_option linter.unusedSectionVars false
set_option maxRecDepth 100000
set_option maxHeartbeats 16000000
namespace Go.Av
section
variable {G:Calls'} {l:List (Nat × AV)} {m:List (Nat × Option (List AV))} {sh:LL}
@[go_sem] theorem look_nil {α:Type} (d:α) (t:Nat):look d [] t=d:=(rfl)
@[go_sem] theorem look_cons {α:Type} (d:α) (k:Nat) (v:α) (r:List (Nat × α)) (t:Nat):look d ((k,v) :: r) t=if t=k then v else look d r t:=(rfl)
@[go_sem] theorem setl_nil {α:Type} (k:Nat) (v:α):setl [] k v=[(k,v)]:=(rfl)
@[go_sem] theorem setl_cons {α:Type} (k k':Nat) (v v':α) (r:List (Nat × α)):setl ((k',v') :: r) k v=if k=k' then (k,v) :: r else if k < k' then (k,v) :: (k',v') :: r else (k',v') :: setl r k v:=(rfl)
@[go_sem] theorem killl_nil (kill:List Nat):killl kill []=[]:=(rfl)
@[go_sem] theorem killl_cons (kill:List Nat) (k:Nat) (v:AV) (r:List (Nat × AV)):killl kill ((k,v) :: r)=if k∈kill then killl kill r else (k,scrubV kill v) :: killl kill r:=(rfl)
@[go_sem] theorem dropl_nil {α:Type} (kill:List Nat):dropl kill ([]:List (Nat × α))=[]:=(rfl)
@[go_sem] theorem dropl_cons {α:Type} (kill:List Nat) (k:Nat) (v:α) (r:List (Nat × α)):dropl kill ((k,v) :: r)=if k∈kill then dropl kill r else (k,v) :: dropl kill r:=(rfl)
@[go_sem] theorem scrl_nil (kill:List Nat):scrl kill []=[]:=(rfl)
@[go_sem] theorem scrl_cons (kill:List Nat) (k:Nat) (v:AV) (r:List (Nat × AV)):scrl kill ((k,v) :: r)=(k,scrubV kill v) :: scrl kill r:=(rfl)
@[go_sem] theorem argl_nil (k:Nat):argl k []=[]:=(rfl)
@[go_sem] theorem argl_cons (k:Nat) (a:AV) (as:List AV):argl k (a :: as)=(k,a) :: argl (k+1) as:=(rfl)
attribute [go_sem] reduceCtorEq Nat.not_lt_zero Nat.lt_one_iff mem_cons not_mem_nil or_false or_true or_self false_or true_or if_true if_false
@[go_sem] theorem demV_int (k:IntKind) (n:Int):demV (.int k n)=.int k n:=(rfl)
@[go_sem] theorem demV_bool (b:Bool):demV (.bool b)=.bool b:=(rfl)
@[go_sem] theorem demV_str (s:List UInt8):demV (.str s)=.str s:=(rfl)
@[go_sem] theorem demV_nilp:demV .nilp=.nilp:=(rfl)
@[go_sem] theorem demV_ptr (o i:Nat):demV (.ptr o i)=.ptr o i:=(rfl)
@[go_sem] theorem demV_agg (x:List AV):demV (.agg x)=.agg x:=(rfl)
@[go_sem] theorem demV_tup (x:List AV):demV (.tup x)=.tup x:=(rfl)
@[go_sem] theorem demV_ss (o i n z:Nat):demV (.ss o i n z)=.ss o i n z:=(rfl)
@[go_sem] theorem demV_mp (o:Nat):demV (.mp o)=.mp o:=(rfl)
@[go_sem] theorem strV_int (k:IntKind) (n:Int):strV (.int k n)=.int k n:=(rfl)
@[go_sem] theorem strV_bool (b:Bool):strV (.bool b)=.bool b:=(rfl)
@[go_sem] theorem strV_str (s:List UInt8):strV (.str s)=.str s:=(rfl)
@[go_sem] theorem strV_agg (x:List AV):strV (.agg x)=.agg x:=(rfl)
@[go_sem] theorem strV_ss (o i n z:Nat):strV (.ss o i n z)=.ss o i n z:=(rfl)
@[go_sem] theorem strV_sl (o:Own) (z:Nat) (x:LL):strV (.sl o z x)=.sl .no z x:=(rfl)
@[go_sem] theorem cellsOfV_agg (n:Nat) (x:List AV):cellsOfV n (.agg x)=if x.length=n then some x else none:=(rfl)
@[go_sem] theorem cellsOfV_int (k:IntKind) (i:Int):cellsOfV 1 (.int k i)=some [.int k i]:=(rfl)
@[go_sem] theorem cellsOfV_str (s:List UInt8):cellsOfV 1 (.str s)=some [.str s]:=(rfl)
@[go_sem] theorem cellsOfV_slN (z:Nat) (x:LL):cellsOfV 1 (.sl .no z x)=some [.sl .no z x]:=(rfl)
@[go_sem] theorem cellsOfV_slF (z:Nat) (a:List AV) (x:LL):cellsOfV 1 (.sl .full z (a :: x))=some [.sl .no z (a :: x)]:=(rfl)
@[go_sem] theorem cellsOfO_agg (n:Nat) (x:List AV):cellsOfO n (.agg x)=if x.length=n then some x else none:=(rfl)
@[go_sem] theorem cellsOfO_int (k:IntKind) (i:Int):cellsOfO 1 (.int k i)=some [.int k i]:=(rfl)
@[go_sem] theorem cellsOfO_str (s:List UInt8):cellsOfO 1 (.str s)=some [.str s]:=(rfl)
@[go_sem] theorem cellsOfO_sl (o:Own) (z:Nat) (x:LL):cellsOfO 1 (.sl o z x)=some [.sl .no z x]:=(rfl)
@[go_sem] theorem cellsOfO_aggR (n:Nat) (x:List AV):cellsOfO n (.aggR x)=if x.length=n/\x.all frB=true then some x else none:=(rfl)
@[go_sem] theorem allfr_nil:List.all [] frB=true:=(rfl)
@[go_sem] theorem allfr_cons (x:AV) (y:List AV):List.all (x :: y) frB=(frB x && List.all y frB):=(rfl)
@[go_sem] theorem frB_int (k:IntKind) (i:Int):frB (.int k i)=true:=(rfl)
@[go_sem] theorem frB_full (z:Nat) (x:LL):frB (.sl .full z x)=true:=(rfl)
@[go_sem] theorem frB_mp (o:Nat):frB (.mp o)=true:=(rfl)
@[go_sem] theorem cellsOfO_mp (a:Nat):cellsOfO 1 (.mp a)=some [.mp a]:=(rfl)
@[go_sem] theorem scrubV_int (a:List Nat) (k:IntKind) (n:Int):scrubV a (.int k n)=.int k n:=(rfl)
@[go_sem] theorem scrubV_bool (a:List Nat) (b:Bool):scrubV a (.bool b)=.bool b:=(rfl)
@[go_sem] theorem scrubV_str (a:List Nat) (s:List UInt8):scrubV a (.str s)=.str s:=(rfl)
@[go_sem] theorem scrubV_ptr (a:List Nat) (o i:Nat):scrubV a (.ptr o i)=.ptr o i:=(rfl)
@[go_sem] theorem scrubV_loc (a:List Nat) (o i:Nat):scrubV a (.loc o i)=if o∈a then .any else .loc o i:=(rfl)
@[go_sem] theorem scrubV_agg (a:List Nat) (x:List AV):scrubV a (.agg x)=.agg x:=(rfl)
@[go_sem] theorem scrubV_ss (a:List Nat) (o i n z:Nat):scrubV a (.ss o i n z)=.ss o i n z:=(rfl)
@[go_sem] theorem scrubV_mp (a:List Nat) (o:Nat):scrubV a (.mp o)=.mp o:=(rfl)
@[go_sem] theorem scrubV_sl (a:List Nat) (o:Own) (z:Nat) (x:LL):scrubV a (.sl o z x)=.sl o z x:=(rfl)
noncomputable def seqX (G:Calls') (r:Option (AX × AS)) (b:ACode):Option (AX × AS):=match r with
 | some (.norm,σ')=>execX G b σ'
 | r=>r
def blockX (id:Nat) (r:Option (AX × AS)):Option (AX × AS):=match r with
 | some (.ex i,σ')=>if i=id then some (.norm,σ') else some (.ex i,σ')
 | r=>r
def regX (kill:List Nat) (r:Option AS):Option (AX × AS):=r.map fun σ'=>(.norm,forget kill σ')
def runX (G:Calls') (r:Option AS) (os:List AOper):Option AS:=r.bind (runA G os)
noncomputable def condX (G:Calls') (v:AV) (a b:ACode) (σ:AS):Option (AX × AS):=match v with
 | .bool t=>if t then execX G a σ else execX G b σ
 | _=>none
@[go_sem] theorem X_skip (σ:AS):execX G .skip σ=some (.norm,σ):=(rfl)
@[go_sem] theorem X_ret (σ:AS):execX G .ret σ=some (.ret,σ):=(rfl)
@[go_sem] theorem X_exit (id:Nat) (σ:AS):execX G (.exit id) σ=some (.ex id,σ):=(rfl)
@[go_sem] theorem X_seq (a b:ACode) (σ:AS):execX G (.seq a b) σ=seqX G (execX G a σ) b:=(rfl)
@[go_sem] theorem X_block (id:Nat) (a:ACode) (σ:AS):execX G (.block id a) σ=blockX id (execX G a σ):=(rfl)
@[go_sem] theorem X_reg0 (d:Bool) (ops:List AOper) (kill:List Nat) (σ:AS):execX G (.reg d [] ops kill) σ=regX kill (runA G ops σ):=by
 show (runA G ops (scrub [] σ)).map _=_;rw[scrub_nil];rfl
@[go_sem] theorem X_reg1 (d:Bool) (a:Nat) (al:List Nat) (ops:List AOper) (kill:List Nat):execX G (.reg d (a :: al) ops kill) (ST l m sh)=regX kill (runA G ops (ST (scrl (a :: al) l) (dropl (a :: al) m) sh)):=by
 show (runA G ops (scrub (a :: al) _)).map _=_;rw[scrub_ST];rfl
@[go_sem] theorem X_cond (c:AR) (a b:ACode):execX G (.cond c a b) (ST l m sh)=condX G (ev (look .any l) c) a b (ST l m sh):=(rfl)
@[go_sem] theorem condX_bool (t:Bool) (a b:ACode) (σ:AS):condX G (.bool t) a b σ=if t then execX G a σ else execX G b σ:=(rfl)
@[go_sem] theorem seqX_norm (σ:AS) (b:ACode):seqX G (some (.norm,σ)) b=execX G b σ:=(rfl)
@[go_sem] theorem seqX_ex (i:Nat) (σ:AS) (b:ACode):seqX G (some (.ex i,σ)) b=some (.ex i,σ):=(rfl)
@[go_sem] theorem seqX_ret (σ:AS) (b:ACode):seqX G (some (.ret,σ)) b=some (.ret,σ):=(rfl)
@[go_sem] theorem seqX_none (b:ACode):seqX G none b=none:=(rfl)
@[go_sem] theorem seqX_ite (c:Prop) [Decidable c] (x y:Option (AX × AS)) (b:ACode):seqX G (if c then x else y) b=if c then seqX G x b else seqX G y b:=by split<;>rfl
@[go_sem] theorem blockX_norm (id:Nat) (σ:AS):blockX id (some (.norm,σ))=some (.norm,σ):=(rfl)
@[go_sem] theorem blockX_ret (id:Nat) (σ:AS):blockX id (some (.ret,σ))=some (.ret,σ):=(rfl)
@[go_sem] theorem blockX_ex (id i:Nat) (σ:AS):blockX id (some (.ex i,σ))=if i=id then some (.norm,σ) else some (.ex i,σ):=(rfl)
@[go_sem] theorem blockX_none (id:Nat):blockX id none=none:=(rfl)
@[go_sem] theorem blockX_ite (id:Nat) (c:Prop) [Decidable c] (x y:Option (AX × AS)):blockX id (if c then x else y)=if c then blockX id x else blockX id y:=by split<;>rfl
@[go_sem] theorem regX_some (kill:List Nat):regX kill (some (ST l m sh))=some (.norm,ST (killl kill l) (dropl kill m) sh):=by
 show some (AX.norm,forget kill (ST l m sh))=_;rw[forget_ST]
@[go_sem] theorem regX_none (kill:List Nat):regX kill none=none:=(rfl)
@[go_sem] theorem regX_ite (kill:List Nat) (c:Prop) [Decidable c] (x y:Option AS):regX kill (if c then x else y)=if c then regX kill x else regX kill y:=by split<;>rfl
@[go_sem] theorem runA_nil (σ:AS):runA G [] σ=some σ:=(rfl)
@[go_sem] theorem runA_cons (o:AOper) (os:List AOper) (σ:AS):runA G (o :: os) σ=runX G (stepA G o σ) os:=(rfl)
@[go_sem] theorem runX_some (σ:AS) (os:List AOper):runX G (some σ) os=runA G os σ:=(rfl)
@[go_sem] theorem runX_none (os:List AOper):runX G none os=none:=(rfl)
@[go_sem] theorem runX_ite (c:Prop) [Decidable c] (x y:Option AS) (os:List AOper):runX G (if c then x else y) os=if c then runX G x os else runX G y os:=by split<;>rfl
noncomputable def loopX (G:Calls') (kill:List Nat) (a:ACode) (r:Option (AX × AS)):Option (AX × AS):=match r with
 | some (.norm,σ')=>execX G (.loop kill a) σ'
 | r=>r
theorem X_loop (kill:List Nat) (a:ACode):execX G (.loop kill a) (ST l m sh)=loopX G kill a (execX G a (ST (killl kill l) (dropl kill m) sh)):=by
 rw[<- forget_ST];show iterX _ _=_;rw[@iterX_eq tab0];rfl
def opX (G:Calls') (dst:Option Nat) (k:AK) (args:List AR) (ml:ML) (dem:Option Nat) (σ:AS):Option AS:=
 match kf G (dst.getD 0) ml k (args.map (ev σ.fr)) (rdm σ ml) with
 | some (v,m)=>some (put (demS (wrm σ m ml) dem) dst v)
 | none=>none
def guardX (G:Calls') (g:AV) (want:Bool) (dst:Option Nat) (k:AK) (args:List AR) (ml:ML) (dem:Option Nat) (σ:AS):Option AS:=
 match g with
 | .bool b=>if b=want then opX G dst k args ml dem σ else some (put σ dst .undef)
 | .undef=>some (put σ dst .undef)
 | _=>none
@[go_sem] theorem step_plain (dst:Option Nat) (k:AK) (args:List AR) (ml:ML) (dem:Option Nat) (σ:AS):stepA G ⟨dst,k,args,ml,dem,none⟩ σ=opX G dst k args ml dem σ:=(rfl)
@[go_sem] theorem step_guard (dst:Option Nat) (k:AK) (args:List AR) (ml:ML) (dem:Option Nat) (s:Nat) (b:Bool):stepA G ⟨dst,k,args,ml,dem,some (s,b)⟩ (ST l m sh)=guardX G (look .any l s) b dst k args ml dem (ST l m sh):=by
 unfold stepA guardX;simp only[guardA,ST_fr]
 cases look AV.any l s with
 | bool c=>cases c<;>cases b<;>rfl
 | _=>rfl
@[go_sem] theorem guardX_bool (c want:Bool) (dst:Option Nat) (k:AK) (args:List AR) (ml:ML) (dem:Option Nat) (σ:AS):guardX G (.bool c) want dst k args ml dem σ=if c=want then opX G dst k args ml dem σ else some (put σ dst .undef):=(rfl)
@[go_sem] theorem guardX_undef (want:Bool) (dst:Option Nat) (k:AK) (args:List AR) (ml:ML) (dem:Option Nat) (σ:AS):guardX G .undef want dst k args ml dem σ=some (put σ dst .undef):=(rfl)
attribute [go_sem] put_ST put_none
@[go_sem] theorem ev_t (f:Nat->AV) (s:Nat):ev f (.t s)=f s:=(rfl)
@[go_sem] theorem ev_c (f:Nat->AV) (a:AV):ev f (.c a)=a:=(rfl)
@[go_sem] theorem op_mv (d:Nat) (x:AR):opX G (some d) .mv [x] .none none (ST l m sh)=some (ST (setl l d (demV (ev (look .any l) x))) m sh):=by
 show some (put (ST l m sh) (some d) _)=_;rw[put_ST];rfl
@[go_sem] theorem op_mvo (d s:Nat):opX G (some d) .mvo [.t s] .none (some s) (ST l m sh)=some (ST (setl (setl l s (demV (look .any l s))) d (look .any l s)) m sh):=by
 show some (put (demS (ST l m sh) (some s)) (some d) _)=_;rw[demS_ST,put_ST];rfl
def resX (d:Nat) (l:List (Nat × AV)) (m:List (Nat × Option (List AV))) (sh:LL) (v:Option AV):Option AS:=v.map fun v=>ST (setl l d v) m sh
@[go_sem] theorem resX_some (d:Nat) (v:AV):resX d l m sh (some v)=some (ST (setl l d v) m sh):=(rfl)
@[go_sem] theorem resX_none (d:Nat):resX d l m sh none=none:=(rfl)
@[go_sem] theorem resX_ite (d:Nat) (c:Prop) [Decidable c] (x y:Option AV):resX d l m sh (if c then x else y)=if c then resX d l m sh x else resX d l m sh y:=by split<;>rfl
theorem op_pure {d:Nat} {k:AK} {args:List AR} {r:Option AV} (h:kf G d .none k (args.map (ev (look .any l))) (none,[])=r.map fun v=>(v,(none,[]))):opX G (some d) k args .none none (ST l m sh)=resX d l m sh r:=by
 unfold opX;have h':kf G ((some d).getD 0) .none k (args.map (ev (ST l m sh).fr)) (rdm (ST l m sh) .none)=r.map fun v=>(v,(none,[])):=h
 rw[h']
 cases r with
 | none=>rfl
 | some v =>
  show some (put (ST l m sh) (some d) v)=_;rw[put_ST];rfl
def pickA:AV->AV->AV->Option AV
 | .bool c,a,b=>some (demV (if c then a else b))
 | _,_,_=>none
@[go_sem] theorem pickA_bool (c:Bool) (a b:AV):pickA (.bool c) a b=some (if c then demV a else demV b):=by cases c<;>rfl
@[go_sem] theorem op_pick (d:Nat) (c x y:AR):opX G (some d) .pick [c,x,y] .none none (ST l m sh)=resX d l m sh (pickA (ev (look .any l) c) (ev (look .any l) x) (ev (look .any l) y)):=by
 apply op_pure;simp only[map_cons,map_nil,kf]
 cases ev (look AV.any l) c<;>rfl
@[go_sem] theorem op_bin (d:Nat) (op:BinOp) (x y:AR):opX G (some d) (.bin op) [x,y] .none none (ST l m sh)=resX d l m sh (binA op (ev (look .any l) x) (ev (look .any l) y)):=by
 apply op_pure;simp only[map_cons,map_nil,kf,kf0]
def beqA (ne:Bool):AV->AV->Option AV
 | .bool x,.bool y=>some (.bool (if ne then x != y else x == y))
 | _,_=>none
def unA:UnOp->AV->Option AV
 | .neg,.int k n=>some (.int k (k.wrap (0 - n)))
 | .not,.bool b=>some (.bool !b)
 | _,_=>none
def seqA (ne:Bool) (ks:List Nat):AV->AV->Option AV
 | .agg x,.agg y=>(eqL ks x y).map fun b=>.bool (if ne then !b else b)
 | _,_=>none
@[go_sem] theorem seqA_ne (ks:List Nat) (x y:List AV):seqA true ks (.agg x) (.agg y)=(eqL ks x y).map fun b=>.bool !b:=(rfl)
@[go_sem] theorem eqL_nil:eqL [] [] []=some true:=(rfl)
@[go_sem] theorem eqL_int (ks:List Nat) (k:IntKind) (a b:Int) (x y:List AV):eqL (0 :: ks) (.int k a :: x) (.int k b :: y)=(eqL ks x y).map fun r=>decide (a=b) && r:=by
 simp only[eqL,if_true];rfl
@[go_sem] theorem eqL_str (ks:List Nat) (a b:List UInt8) (x y:List AV):eqL (2 :: ks) (.str a :: x) (.str b :: y)=(eqL ks x y).map fun r=>(a == b) && r:=(rfl)
@[go_sem] theorem op_seq (d:Nat) (ne:Bool) (ks:List Nat) (x y:AR):opX G (some d) (.seq ne ks) [x,y] .none none (ST l m sh)=resX d l m sh (seqA ne ks (ev (look .any l) x) (ev (look .any l) y)):=by
 apply op_pure;simp only[map_cons,map_nil,kf];cases hx:ev (look AV.any l) x<;>cases hy:ev (look AV.any l) y<;>try rfl
 simp only[kf0,seqA,Option.map_map];rfl
@[go_sem] theorem unA_not (b:Bool):unA .not (.bool b)=some (.bool !b):=(rfl)
@[go_sem] theorem op_un (d:Nat) (op:UnOp) (x:AR):opX G (some d) (.un op) [x] .none none (ST l m sh)=resX d l m sh (unA op (ev (look .any l) x)):=by
 apply op_pure;simp only[map_cons,map_nil,kf]
 cases op<;>cases ev (look AV.any l) x<;>rfl
def lenA:AV->Option AV
 | .sl _ _ x=>some (.int .i64 (x.length:Int))
 | .str s=>some (.int .i64 (s.length:Int))
 | _=>none
def lenA' (str:Bool) (v:AV):Option AV:=match str,v with
 | false,.sl _ _ x=>some (.int .i64 (x.length:Int))
 | false,.ss _ _ n _=>some (.int .i64 (n:Int))
 | true,.str s=>some (.int .i64 (s.length:Int))
 | _,_=>none
@[go_sem] theorem lenA'_ss (o i n z:Nat):lenA' false (.ss o i n z)=some (.int .i64 (n:Int)):=(rfl)
@[go_sem] theorem lenA'_sl (o:Own) (z:Nat) (x:LL):lenA' false (.sl o z x)=some (.int .i64 (x.length:Int)):=(rfl)
@[go_sem] theorem lenA'_str (s:List UInt8):lenA' true (.str s)=some (.int .i64 (s.length:Int)):=(rfl)
@[go_sem] theorem op_len (d:Nat) (b:Bool) (x:AR):opX G (some d) (.len b) [x] .none none (ST l m sh)=resX d l m sh (lenA' b (ev (look .any l) x)):=by
 apply op_pure;simp only[map_cons,map_nil,kf]
 cases b<;>cases ev (look AV.any l) x<;>rfl
def mmA (b:Bool):AV->AV->Option AV
 | .int k x,.int k' y=>if k=k' then some (.int k (if b then (if x < y then y else x) else (if y < x then y else x))) else none
 | _,_=>none
@[go_sem] theorem mmA_max (k:IntKind) (x y:Int):mmA true (.int k x) (.int k y)=some (.int k (max x y)):=by
 simp only[mmA,if_true,Option.some.injEq,AV.int.injEq,true_and];split<;>omega
@[go_sem] theorem mmA_min (k:IntKind) (x y:Int):mmA false (.int k x) (.int k y)=some (.int k (min x y)):=by
 simp only[mmA,if_true,Bool.false_eq_true,if_false,Option.some.injEq,AV.int.injEq,true_and];split<;>omega
@[go_sem] theorem op_mm (d:Nat) (b:Bool) (x y:AR):opX G (some d) (.mm b) [x,y] .none none (ST l m sh)=resX d l m sh (mmA b (ev (look .any l) x) (ev (look .any l) y)):=by
 apply op_pure;simp only[map_cons,map_nil,kf];cases hx:ev (look AV.any l) x<;>cases hy:ev (look AV.any l) y<;>try rfl
 rename_i k n k' n';simp only[kf0,mmA]
 split<;>rfl
def nilcA:AV->Option AV
 | .ptr a b=>some (.ptr a b)
 | .loc a b=>some (.loc a b)
 | .ip x=>some (.ip x)
 | _=>none
@[go_sem] theorem nilcA_ptr (a b:Nat):nilcA (.ptr a b)=some (.ptr a b):=(rfl)
@[go_sem] theorem op_nilc (d:Nat) (x:AR):opX G (some d) .nilc [x] .none none (ST l m sh)=resX d l m sh (nilcA (ev (look .any l) x)):=by
 apply op_pure;simp only[map_cons,map_nil,kf]
 cases ev (look AV.any l) x<;>rfl
def faA (off:Nat):AV->Option AV
 | .loc s o=>some (.loc s (o+off))
 | .ptr i o=>some (.ptr i (o+off))
 | .ip x=>some (.ip (x.drop off))
 | _=>none
@[go_sem] theorem faA_loc (off s o:Nat):faA off (.loc s o)=some (.loc s (o+off)):=(rfl)
@[go_sem] theorem faA_ptr (off s o:Nat):faA off (.ptr s o)=some (.ptr s (o+off)):=(rfl)
@[go_sem] theorem faA_ip (off:Nat) (x:List AV):faA off (.ip x)=some (.ip (x.drop off)):=(rfl)
@[go_sem] theorem op_fa (d off:Nat) (x:AR):opX G (some d) (.fa off) [x] .none none (ST l m sh)=resX d l m sh (faA off (ev (look .any l) x)):=by
 apply op_pure;simp only[map_cons,map_nil,kf]
 cases ev (look AV.any l) x<;>rfl
def fldA (agg:Bool) (off n:Nat):AV->Option AV
 | .agg x=>takeC agg off n x
 | _=>none
def iaK (z:Nat):AV->AV->Option AV
 | .sl _ z' x,.int _ i=>if z'=z/\0<=i then (x[i.toNat]?).map .ip else none
 | .ss o off n z',.int _ i=>if z'=z/\0<=i/\i < n then some (.ptr o (off+i.toNat*z)) else none
 | _,_=>none
@[go_sem] theorem iaK_ss (z o off n:Nat) (k:IntKind) (i:Int):iaK z (.ss o off n z) (.int k i)=if 0<=i/\i < n then some (.ptr o (off+i.toNat*z)) else none:=by simp [iaK]
@[go_sem] theorem iaK_sl (z:Nat) (o:Own) (x:LL) (k:IntKind) (i:Int):iaK z (.sl o z x) (.int k i)=if 0<=i then (x[i.toNat]?).map .ip else none:=by simp [iaK]
@[go_sem] theorem op_ia (d z:Nat) (x y:AR):opX G (some d) (.ia z) [x,y] .none none (ST l m sh)=resX d l m sh (iaK z (ev (look .any l) x) (ev (look .any l) y)):=by
 apply op_pure;simp only[map_cons,map_nil,kf];cases hx:ev (look AV.any l) x<;>cases hy:ev (look AV.any l) y<;>try rfl
 all_goals
  simp only[kf0,iaK];split
  ·first | rfl | (simp only[Option.map_map];rfl)
  ·rfl
def iaAK (z len:Nat):AV->AV->Option AV
 | a,.int _ i=>if 0<=i/\i < len then
   (match a with
   | .loc s o=>some (.loc s (o+i.toNat*z))
   | .ptr p o=>some (.ptr p (o+i.toNat*z))
   | .ip x=>some (.ip (x.drop (i.toNat*z)))
   | _=>none) else none
 | _,_=>none
@[go_sem] theorem iaAK_ip (z len:Nat) (x:List AV) (k:IntKind) (i:Int):iaAK z len (.ip x) (.int k i)=if 0<=i/\i < len then some (.ip (x.drop (i.toNat*z))) else none:=(rfl)
@[go_sem] theorem op_iaA (d z len:Nat) (x y:AR):opX G (some d) (.iaA z len) [x,y] .none none (ST l m sh)=resX d l m sh (iaAK z len (ev (look .any l) x) (ev (look .any l) y)):=by
 apply op_pure;simp only[map_cons,map_nil,kf];cases hx:ev (look AV.any l) x<;>cases hy:ev (look AV.any l) y<;>try rfl
 all_goals
  simp only[kf0,iaAK]
  split<;>rfl
def ixsK:AV->AV->Option AV
 | .str s,.int _ i=>if 0<=i then (s[i.toNat]?).map fun b=>.int .u8 (b.toNat:Int) else none
 | _,_=>none
@[go_sem] theorem ixsK_str (s:List UInt8) (k:IntKind) (i:Int):ixsK (.str s) (.int k i)=if 0<=i then (s[i.toNat]?).map fun b=>.int .u8 (b.toNat:Int) else none:=(rfl)
@[go_sem] theorem op_ixs (d:Nat) (x y:AR):opX G (some d) .ixs [x,y] .none none (ST l m sh)=resX d l m sh (ixsK (ev (look .any l) x) (ev (look .any l) y)):=by
 apply op_pure;simp only[map_cons,map_nil,kf];cases hx:ev (look AV.any l) x<;>cases hy:ev (look AV.any l) y<;>try rfl
 simp only[kf0,ixsK];split
 ·simp only[Option.map_map];rfl
 ·rfl
@[go_sem] theorem op_slc1 (d:Nat) (str:Bool) (z:Nat) (x y:AR):opX G (some d) (.slc str z true false) [x,y] .none none (ST l m sh)=resX d l m sh (sliceA str z (ev (look .any l) x) (some (ev (look .any l) y)) none):=by
 apply op_pure;simp only[map_cons,map_nil,kf,kf0]
@[go_sem] theorem op_slc2 (d:Nat) (str:Bool) (z:Nat) (x y:AR):opX G (some d) (.slc str z false true) [x,y] .none none (ST l m sh)=resX d l m sh (sliceA str z (ev (look .any l) x) none (some (ev (look .any l) y))):=by
 apply op_pure;simp only[map_cons,map_nil,kf,kf0]
@[go_sem] theorem op_slc3 (d:Nat) (str:Bool) (z:Nat) (x y w:AR):opX G (some d) (.slc str z true true) [x,y,w] .none none (ST l m sh)=resX d l m sh (sliceA str z (ev (look .any l) x) (some (ev (look .any l) y)) (some (ev (look .any l) w))):=by
 apply op_pure;simp only[map_cons,map_nil,kf,kf0]
@[go_sem] theorem op_build (d:Nat) (zero:List AV) (pl:List (Nat × Nat)) (args:List AR):opX G (some d) (.build zero pl) args .none none (ST l m sh)=resX d l m sh ((fillA zero pl (args.map (ev (look .any l)))).map .agg):=by
 apply op_pure;simp only[kf,kf0,Option.map_map];rfl
@[go_sem] theorem op_buildR (d:Nat) (zero:List AV) (pl:List (Nat × Nat)) (args:List AR):opX G (some d) (.buildR zero pl) args .none none (ST l m sh)=resX d l m sh ((fillR zero pl (args.map (ev (look .any l)))).map .aggR):=by
 apply op_pure;simp only[kf,kf0,Option.map_map];rfl
def mksA (z:Nat) (zero:List AV) (len:Nat) (pl:List Nat) (xs:List AV):Option AV:=
 (fillA (zeroRow zero len) (pl.map fun i=>(i*z,z)) xs).map fun cs=>.sl .full z (rowsOf z len cs)
@[go_sem] theorem op_mks (d z:Nat) (zero:List AV) (len:Nat) (pl:List Nat) (args:List AR):opX G (some d) (.mks z zero len pl) args .none none (ST l m sh)=resX d l m sh (mksA z zero len pl (args.map (ev (look .any l)))):=by
 apply op_pure;simp only[kf,kf0,mksA,Option.map_map];rfl
def appA (str:Bool) (z bytes:Nat):AV->AV->Option AV
 | .sl md z' x,y=>(rowsA str z y).bind fun l2=>if (z'=z\/(x=[]/\md=.full))/\md≠.no/\0 < z/\(x.length+l2.length)*bytes<=140737488355328/\x.length+l2.length<=4611686018427387904 then some (.sl .own z (x++l2)) else none
 | _,_=>none
theorem app_kf (d:Nat) (str:Bool) (z bytes:Nat) (u v:AV):kf G d .none (.app str z bytes) [u,v] (none,[])=(appA str z bytes u v).map fun v=>(v,(none,[])):=by
 simp only[kf]
 cases u<;>try rfl
 simp only[kf0,appA]
 cases rowsA str z v with
 | none=>rfl
 | some l2 =>
  simp only[Option.bind_some]
  split<;>rfl
@[go_sem] theorem op_app (d s:Nat) (str:Bool) (z bytes:Nat) (y:AR):opX G (some d) (.app str z bytes) [.t s,y] .none (some s) (ST l m sh)=resX d (setl l s (demV (look .any l s))) m sh (appA str z bytes (look .any l s) (ev (look .any l) y)):=by
 unfold opX;have h':kf G ((some d).getD 0) .none (.app str z bytes) ([AR.t s,y].map (ev (ST l m sh).fr)) (rdm (ST l m sh) .none)=(appA str z bytes (look .any l s) (ev (look .any l) y)).map fun v=>(v,(none,[])):=app_kf d str z bytes _ _
 rw[h']
 cases appA str z bytes (look .any l s) (ev (look .any l) y) with
 | none=>rfl
 | some v =>
  show some (put (demS (ST l m sh) (some s)) (some d) v)=_;rw[demS_ST,put_ST];rfl
@[go_sem] theorem op_appc (d:Nat) (str:Bool) (z bytes:Nat) (a:AV) (y:AR):opX G (some d) (.app str z bytes) [.c a,y] .none none (ST l m sh)=resX d l m sh (appA str z bytes a (ev (look .any l) y)):=
 op_pure (app_kf d str z bytes _ _)
def extA (i:Nat):AV->Option AV
 | .tup x=>x[i]?
 | _=>none
@[go_sem] theorem extA_tup (i:Nat) (x:List AV):extA i (.tup x)=x[i]?:=(rfl)
@[go_sem] theorem op_ext (d i:Nat) (x:AR):opX G (some d) (.ext i) [x] .none none (ST l m sh)=resX d l m sh (extA i (ev (look .any l) x)):=by
 apply op_pure;simp only[map_cons,map_nil,kf]
 cases ev (look AV.any l) x<;>rfl
def mkfA (f:FuncId) (caps:List AV):Option AV:=if caps.all (capB true) then some (.fn f caps) else none
@[go_sem] theorem takeC_false (off:Nat) (x:List AV):takeC false off 1 x=x[off]?:=by
 unfold takeC;simp only[Bool.false_eq_true,if_false];cases h:x.drop off with
 | nil =>
  have:x[off]?=none:=by
   rw[getElem?_eq_none]
   have:=congrArg List.length h
   simp at this;omega
  rw[this];rfl
 | cons a r =>
  have:x[off]?=some a:=by
   have h2:(x.drop off)[0]?=some a:=by rw[h];rfl
   rw[getElem?_drop] at h2;simpa using h2
  rw[this];rfl
@[go_sem] theorem takeC_true (off n:Nat) (x:List AV):takeC true off n x=if ((x.drop off).take n).length=n then some (.agg ((x.drop off).take n)) else none:=(rfl)
attribute [go_sem] getElem?_cons_zero getElem?_cons_succ drop_zero drop_succ_cons take_succ_cons take_zero
@[go_sem] theorem op_alloc (d:Nat) (zero:List AV):opX G (some d) (.alloc zero) [] (.lo d) none (ST l m sh)=if (look none m d).isNone then some (ST (setl l d (.loc d 0)) (setl m d (some zero)) sh) else none:=by
 unfold opX;simp only[map_nil,kf,kf0,rdm_lo,Option.getD_some,true_and];by_cases h:(look none m d).isNone=true
 ·rw[if_pos h,if_pos h]
  show some (put (demS (wrm (ST l m sh) _ _) none) (some d) _)=_;rw[wrm_lo,demS_none,put_ST]
 ·rw[if_neg h,if_neg h]
@[go_sem] theorem op_allocS (d:Nat) (zero:List AV):opX G (some d) (.allocS zero) [] .sh none (ST l m sh)=some (ST (setl l d (.ptr sh.length 0)) m (sh++[zero])):=by
 unfold opX;simp only[map_nil,kf,kf0,rdm_sh,if_true];rw[wrm_sh,demS_none,put_ST]
def boxX (d:Nat) (l:List (Nat × AV)) (m:List (Nat × Option (List AV))) (sh:LL):Option (List AV)->Option AS
 | some cs=>if (look none m d).isNone then some (ST (setl l d (.loc d 0)) (setl m d (some cs)) sh) else none
 | none=>none
@[go_sem] theorem boxX_some (d:Nat) (cs:List AV):boxX d l m sh (some cs)=if (look none m d).isNone then some (ST (setl l d (.loc d 0)) (setl m d (some cs)) sh) else none:=(rfl)
@[go_sem] theorem op_box (d n:Nat) (x:AR):opX G (some d) (.box n) [x] (.lo d) none (ST l m sh)=boxX d l m sh (cellsOfV n (ev (look .any l) x)):=by
 unfold opX;simp only[map_cons,map_nil,kf,kf0,rdm_lo,Option.getD_some,true_and,ST_frf]
 cases cellsOfV n (ev (look AV.any l) x) with
 | none=>simp only[Option.map_none,ite_self];rfl
 | some cs =>
  simp only[Option.map_some,boxX];by_cases h:(look none m d).isNone=true
  ·rw[if_pos h,if_pos h]
   show some (put (demS (wrm (ST l m sh) _ _) none) (some d) _)=_;rw[wrm_lo,demS_none,put_ST]
  ·rw[if_neg h,if_neg h]
def boxSX (d:Nat) (l:List (Nat × AV)) (m:List (Nat × Option (List AV))) (sh:LL):Option (List AV)->Option AS
 | some cs=>some (ST (setl l d (.ptr sh.length 0)) m (sh++[cs]))
 | none=>none
@[go_sem] theorem boxSX_some (d:Nat) (cs:List AV):boxSX d l m sh (some cs)=some (ST (setl l d (.ptr sh.length 0)) m (sh++[cs])):=(rfl)
@[go_sem] theorem op_boxS (d n:Nat) (x:AR):opX G (some d) (.boxS n) [x] .sh none (ST l m sh)=boxSX d l m sh (cellsOfV n (ev (look .any l) x)):=by
 unfold opX;simp only[map_cons,map_nil,kf,kf0,rdm_sh,if_true,ST_frf]
 cases cellsOfV n (ev (look AV.any l) x) with
 | none=>rfl
 | some cs =>
  show some (put (demS (wrm (ST l m sh) _ _) none) (some d) _)=_;rw[wrm_sh,demS_none,put_ST];rfl
def flatL:List AV->Option (List AV)
 | []=>some []
 | x :: xs=>if flatB (demV x)=true then (flatL xs).map (demV x :: ·) else none
theorem flatL_eq:∀ (x:List AV),flatL x=if x.all (fun y=>flatB (demV y))=true then some (x.map demV) else none
 | []=>rfl
 | x :: xs=>by
  simp only[flatL,flatL_eq xs,all_cons,map_cons];by_cases h:flatB (demV x)=true
  ·rw[if_pos h]
   simp only[h,Bool.true_and]
   split<;>rfl
  ·rw[if_neg h]
   have:flatB (demV x)=false:=by simpa using h
   simp [this]
@[go_sem] theorem ldV_int (k:IntKind) (n:Int):ldV (.int k n)=some (.int k n):=(rfl)
@[go_sem] theorem ldV_str (s:List UInt8):ldV (.str s)=some (.str s):=(rfl)
@[go_sem] theorem ldV_mp (a:Nat):ldV (.mp a)=some (.mp a):=(rfl)
@[go_sem] theorem ldV_no (z:Nat) (x:LL):ldV (.sl .no z x)=some (.sl .no z x):=(rfl)
@[go_sem] theorem flatL_nil:flatL []=some []:=(rfl)
@[go_sem] theorem flatL_int (k:IntKind) (n:Int) (xs:List AV):flatL (.int k n :: xs)=(flatL xs).map (.int k n :: ·):=(rfl)
@[go_sem] theorem flatL_str (s:List UInt8) (xs:List AV):flatL (.str s :: xs)=(flatL xs).map (.str s :: ·):=(rfl)
@[go_sem] theorem flatL_no (z:Nat) (x:LL) (xs:List AV):flatL (.sl .no z x :: xs)=(flatL xs).map (.sl .no z x :: ·):=(rfl)
@[go_sem] theorem ldC_false (off n:Nat) (x:List AV):ldC false off n x=(x[off]?).bind ldV:=by
 unfold ldC;simp only[Bool.false_eq_true,if_false];cases x[off]?<;>rfl
@[go_sem] theorem ldC_true (off n:Nat) (x:List AV):ldC true off n x=if ((x.drop off).take n).length=n then (flatL ((x.drop off).take n)).map .agg else none:=by
 unfold ldC;rw[if_pos rfl,flatL_eq];by_cases h1:((x.drop off).take n).length=n
 ·rw[if_pos h1]
  by_cases h2:((x.drop off).take n).all (fun x=>flatB (demV x))=true
  ·rw[if_pos ⟨h1,h2⟩,if_pos h2];rfl
  ·rw[if_neg (fun h=>h2 h.2),if_neg h2];rfl
 ·rw[if_neg (fun h=>h1 h.1),if_neg h1]
def ldA (ml:ML) (agg:Bool) (n:Nat) (m:List (Nat × Option (List AV))) (sh:LL):AV->Option AV
 | .loc s off=>if ml=.lo s then (look none m s).bind fun cells=>ldC agg off n cells else none
 | .ptr o off=>if ml=.sh then (sh[o]?).bind fun cells=>ldC agg off n cells else none
 | .ip cells=>takeC agg 0 n cells
 | _=>none
@[go_sem] theorem ldA_loc (s:Nat) (agg:Bool) (n off:Nat):ldA (.lo s) agg n m sh (.loc s off)=(look none m s).bind fun cells=>ldC agg off n cells:=by simp [ldA]
@[go_sem] theorem ldA_ptr (agg:Bool) (n o off:Nat):ldA .sh agg n m sh (.ptr o off)=(sh[o]?).bind fun cells=>ldC agg off n cells:=by simp [ldA]
@[go_sem] theorem ldA_ip (ml:ML) (agg:Bool) (n:Nat) (cells:List AV):ldA ml agg n m sh (.ip cells)=takeC agg 0 n cells:=(rfl)
theorem put_same (ml:ML) (d:Nat) (v:AV):(some (put (demS (wrm (ST l m sh) (rdm (ST l m sh) ml) ml) none) (some d) v):Option AS)=resX d l m sh (some v):=by
 rw[@wrm_rdm tab0,demS_none,put_ST];rfl
@[go_sem] theorem op_ld (d:Nat) (agg:Bool) (n:Nat) (x:AR) (ml:ML):opX G (some d) (.ld agg n) [x] ml none (ST l m sh)=resX d l m sh (ldA ml agg n m sh (ev (look .any l) x)):=by
 unfold opX;have key:=fun v=>put_same (l:=l) (m:=m) (sh:=sh) ml d v
 simp only[map_cons,map_nil,kf,kf0,ST_frf];cases hx:ev (look AV.any l) x<;>simp only[ldA]<;>try rfl
 ·rename_i o off
  by_cases hml:ml=.sh
  ·subst hml
   simp only[if_true,rdm_sh]
   cases sh[o]? with
   | none=>rfl
   | some cells =>
    simp only[Option.bind_some]
    cases ldC agg off n cells with
    | none=>rfl
    | some v=>exact key v
  ·simp only[hml,if_false];rfl
 ·rename_i s off
  by_cases hml:ml=.lo s
  ·subst hml
   rw[if_pos rfl,if_pos rfl];have h1:(rdm (ST l m sh) (.lo s)).1=look none m s:=rfl;rw[h1]
   cases look none m s with
   | none=>rfl
   | some cells =>
    simp only[Option.bind_some]
    cases ldC agg off n cells with
    | none=>rfl
    | some v=>exact key v
  ·simp only[hml,if_false];rfl
 ·cases takeC agg 0 n _ with
  | none=>rfl
  | some v=>exact key v
@[go_sem] theorem blkB_int (k:IntKind) (n:Int) (x:List AV):blkB (.int k n :: x)=true:=(rfl)
@[go_sem] theorem blkB_sl (o:Own) (z:Nat) (y:LL) (x:List AV):blkB (.sl o z y :: x)=true:=(rfl)
def stX (ml:ML) (_:Nat) (l:List (Nat × AV)) (m:List (Nat × Option (List AV))) (sh:LL):AV->Option (List AV)->Option AS
 | .loc s off,some cs=>if ml=.lo s then (look none m s).bind fun cells=>(putC off cs cells).map fun c'=>ST l (setl m s (some c')) sh else none
 | .ptr o off,some cs=>if ml=.sh then (sh[o]?).bind fun cells=>if blkB cells=true then (putC off cs cells).map fun c'=>ST l m (sh.set o c') else none else none
 | _,_=>none
@[go_sem] theorem stX_loc (s n off:Nat) (cs:List AV):stX (.lo s) n l m sh (.loc s off) (some cs)=(look none m s).bind fun cells=>(putC off cs cells).map fun c'=>ST l (setl m s (some c')) sh:=by simp [stX]
@[go_sem] theorem stX_ptr (o n off:Nat) (cs:List AV):stX .sh n l m sh (.ptr o off) (some cs)=(sh[o]?).bind fun cells=>if blkB cells=true then (putC off cs cells).map fun c'=>ST l m (sh.set o c') else none:=by simp [stX]
@[go_sem] theorem op_st (n:Nat) (x y:AR) (ml:ML):opX G none (.st n) [x,y] ml none (ST l m sh)=stX ml n l m sh (ev (look .any l) x) (cellsOfO n (ev (look .any l) y)):=by
 unfold opX;simp only[map_cons,map_nil,kf,kf0,ST_frf];cases hy:cellsOfO n (ev (look AV.any l) y) with
 | none =>
  have h0:∀ {α β:Type} (o:Option α),(o.bind fun _=>(none:Option β))=none:=fun o=>by cases o<;>rfl
  cases ev (look AV.any l) x<;>simp only[stX,Option.bind_none,h0,ite_self]<;>rfl
 | some cs =>
  cases hx:ev (look AV.any l) x<;>simp only[stX,Option.bind_some]<;>try rfl
  ·rename_i o off
   by_cases hml:ml=.sh
   ·subst hml
    simp only[if_true,rdm_sh]
    cases sh[o]? with
    | none=>rfl
    | some cells =>
     simp only[Option.bind_some];by_cases hb:blkB cells=true
     ·rw[if_pos hb,if_pos hb]
      cases putC off cs cells<;>rfl
     ·rw[if_neg hb,if_neg hb]
   ·simp only[hml,if_false]
  ·rename_i s off
   by_cases hml:ml=.lo s
   ·subst hml
    simp only[if_true,rdm_lo]
    cases look none m s with
    | none=>rfl
    | some cells =>
     simp only[Option.bind_some]
     cases putC off cs cells with
     | none=>rfl
     | some c' =>
      show some (put (demS (wrm (ST l m sh) _ (.lo s)) none) none _)=_;rw[wrm_lo];rfl
   ·simp only[hml,if_false]
def resH (d:Nat) (l:List (Nat × AV)) (m:List (Nat × Option (List AV))) (r:Option (AV × LL)):Option AS:=r.map fun r=>ST (setl l d r.1) m r.2
@[go_sem] theorem resH_some (d:Nat) (v:AV) (sh':LL):resH d l m (some (v,sh'))=some (ST (setl l d v) m sh'):=(rfl)
theorem op_H {d:Nat} {k:AK} {args:List AR} {r:Option (AV × LL)} (h:kf G d .sh k (args.map (ev (look .any l))) (none,sh)=r.map fun v=>(v.1,(none,v.2))):opX G (some d) k args .sh none (ST l m sh)=resH d l m r:=by
 unfold opX;have h':kf G ((some d).getD 0) .sh k (args.map (ev (ST l m sh).fr)) (rdm (ST l m sh) .sh)=r.map fun v=>(v.1,(none,v.2)):=h
 rw[h']
 cases r with
 | none=>rfl
 | some v =>
  show some (put (ST l m v.2) (some d) v.1)=_;rw[put_ST];rfl
def s2bA (sh:LL):AV->Option (AV × LL)
 | .str s=>if s.length<=140737488355328 then some (.ss sh.length 0 s.length 1,sh++[s.map fun b=>.int .u8 (b.toNat:Int)]) else none
 | _=>none
def bcells (s:List UInt8):List AV:=s.map fun b=>.int .u8 (b.toNat:Int)
def b2sA (sh:LL):AV->Option AV
 | .sl _ z l=>if z=1 then (bytesOfR l).map .str else none
 | .ss o off n z=>if z=1 then (rowsS false 1 sh (.ss o off n z)).bind fun l=>(bytesOfR l).map .str else none
 | _=>none
@[go_sem] theorem b2sA_ss (o off n:Nat):b2sA sh (.ss o off n 1)=(sh[o]?).bind fun cells=>(rowsC off n 1 cells).bind fun l=>(bytesOfR l).map .str:=by
 simp only[b2sA,rowsS,if_true,and_self];cases sh[o]?<;>rfl
@[go_sem] theorem op_b2sS (d:Nat) (x:AR):opX G (some d) .b2s [x] .sh none (ST l m sh)=resX d l m sh (b2sA sh (ev (look .any l) x)):=by
 unfold opX;simp only[map_cons,map_nil,kf,ST_frf];cases hx:ev (look AV.any l) x<;>try rfl
 ·rename_i o z y
  simp only[kf0,b2sA,rdm_sh];by_cases hz:z=1
  ·rw[if_pos hz,if_pos hz]
   cases bytesOfR y with
   | none=>rfl
   | some s=>exact put_same .sh d _
  ·rw[if_neg hz,if_neg hz];rfl
 ·rename_i o off n z
  simp only[kf0,b2sA,rdm_sh,true_and];by_cases hz:z=1
  ·rw[if_pos hz,if_pos hz]
   cases rowsS false 1 sh (.ss o off n z) with
   | none=>rfl
   | some y =>
    simp only[Option.bind_some]
    cases bytesOfR y with
    | none=>rfl
    | some s=>exact put_same .sh d _
  ·rw[if_neg hz,if_neg hz];rfl
def b2sP:AV->Option AV
 | .sl _ z l=>if z=1 then (bytesOfR l).map .str else none
 | _=>none
@[go_sem] theorem b2sP_sl (o:Own) (x:LL):b2sP (.sl o 1 x)=(bytesOfR x).map .str:=(rfl)
@[go_sem] theorem op_b2s (d:Nat) (x:AR):opX G (some d) .b2s [x] .none none (ST l m sh)=resX d l m sh (b2sP (ev (look .any l) x)):=by
 apply op_pure;simp only[map_cons,map_nil,kf]
 cases ev (look AV.any l) x<;>try rfl
 ·simp only[kf0,b2sP]
  split
  ·simp only[Option.map_map];rfl
  ·rfl
@[go_sem] theorem bytesOfR_nil':bytesOfR []=some []:=(rfl)
def mklA (z:Nat) (zero:List AV) (bytes:Nat) (sh:LL):AV->AV->Option (AV × LL)
 | .int k n,.int k' c=>if k=.i64/\k'=.i64/\0<=n/\n<=c/\c*bytes<=140737488355328/\c<=4611686018427387904/\0 < z/\zero.length=z then some (.ss sh.length 0 n.toNat z,sh++[zeroRow zero n.toNat]) else none
 | _,_=>none
@[go_sem] theorem mklA_int (z:Nat) (zero:List AV) (bytes:Nat) (n c:Int):mklA z zero bytes sh (.int .i64 n) (.int .i64 c)=if 0<=n/\n<=c/\c*bytes<=140737488355328/\c<=4611686018427387904/\0 < z/\zero.length=z then some (.ss sh.length 0 n.toNat z,sh++[zeroRow zero n.toNat]) else none:=by
 simp only[mklA,true_and]
@[go_sem] theorem op_mkl (d z:Nat) (zero:List AV) (bytes:Nat) (x y:AR):opX G (some d) (.mkl z zero bytes) [x,y] .sh none (ST l m sh)=resH d l m (mklA z zero bytes sh (ev (look .any l) x) (ev (look .any l) y)):=by
 apply op_H;simp only[map_cons,map_nil,kf]
 cases ev (look AV.any l) x<;>cases ev (look AV.any l) y<;>try rfl
 simp only[kf0,mklA,true_and]
 split<;>rfl
def appSA (z bytes:Nat) (sh:LL) (l2:Option LL) (x:AV):Option (AV × LL):=
 l2.bind fun l2=>match x with
   | .sl .full _ []=>if l2=[] then some (.sl .full z [],sh) else if 0 < z/\l2.length*bytes<=140737488355328/\l2.length<=4611686018427387904 then some (.ss sh.length 0 l2.length z,sh++[l2.flatten]) else none
   | .ss o off n z'=>if off=0/\z'=z/\0 < z/\(n+l2.length)*bytes<=140737488355328/\n+l2.length<=4611686018427387904 then
     (sh[o]?).bind fun cells=>if blkB cells/\n*z=cells.length/\cells.all nownB then some (.ss sh.length 0 (n+l2.length) z,sh.set o dead++[cells++l2.flatten]) else none
    else none
   | _=>none
@[go_sem] theorem op_appS (d:Nat) (str:Bool) (z bytes:Nat) (x y:AR):opX G (some d) (.appS str z bytes) [x,y] .sh none (ST l m sh)=resH d l m (appSA z bytes sh (rowsS str z sh (ev (look .any l) y)) (ev (look .any l) x)):=by
 apply op_H;simp only[map_cons,map_nil,kf,kf0,if_true,appSA]
 cases rowsS str z sh (ev (look AV.any l) y) with
 | none=>rfl
 | some l2 =>
  simp only[Option.bind_some];generalize ev (look AV.any l) x=vx
  cases vx<;>try rfl
  ·rename_i o z' y
   cases o<;>cases y<;>try rfl
   simp only;by_cases h1:l2=[]
   ·rw[if_pos h1,if_pos h1];rfl
   ·rw[if_neg h1,if_neg h1]
    split<;>rfl
  ·rename_i o off n z'
   simp only;by_cases h1:off=0/\z'=z/\0 < z/\(n+l2.length)*bytes<=140737488355328/\n+l2.length<=4611686018427387904
   ·rw[if_pos h1,if_pos h1]
    cases sh[o]? with
    | none=>rfl
    | some cells =>
     simp only[Option.bind_some]
     split<;>rfl
   ·rw[if_neg h1,if_neg h1];rfl
def slaA (len:Nat) (sh:LL):AV->AV->AV->Option AV
 | .ptr o off,.int _ i,.int _ j=>if 0<=i/\i < j/\j<=len then (sh[o]?).bind fun cells=>if blkB cells/\off+len<=cells.length then some (.ss o (off+i.toNat) (j.toNat - i.toNat) 1) else none else none
 | _,_,_=>none
@[go_sem] theorem op_sla (d len:Nat) (x i j:AR):opX G (some d) (.sla len) [x,i,j] .sh none (ST l m sh)=resX d l m sh (slaA len sh (ev (look .any l) x) (ev (look .any l) i) (ev (look .any l) j)):=by
 unfold opX;have h':kf G ((some d).getD 0) .sh (.sla len) ([x,i,j].map (ev (ST l m sh).fr)) (rdm (ST l m sh) .sh)=(slaA len sh (ev (look .any l) x) (ev (look .any l) i) (ev (look .any l) j)).map fun v=>(v,(none,sh)):=by
  simp only[map_cons,map_nil,kf,ST_frf]
  cases ev (look AV.any l) x<;>cases ev (look AV.any l) i<;>cases ev (look AV.any l) j<;>try rfl
  rename_i o off k1 i k2 j;simp only[kf0,slaA,true_and,rdm_sh];by_cases h:0<=i/\i < j/\j<=len
  ·rw[if_pos h,if_pos h]
   cases sh[o]? with
   | none=>rfl
   | some cells =>
    simp only[Option.bind_some];by_cases h2:blkB cells=true/\off+len<=cells.length
    ·rw[if_pos h2,if_pos h2];rfl
    ·rw[if_neg h2,if_neg h2];rfl
  ·rw[if_neg h,if_neg h];rfl
 rw[h']
 cases slaA len sh (ev (look .any l) x) (ev (look .any l) i) (ev (look .any l) j) with
 | none=>rfl
 | some v =>
  show some (put (ST l m sh) (some d) v)=_;rw[put_ST];rfl
@[go_sem] theorem slaA_ptr (len o off:Nat) (k1 k2:IntKind) (i j:Int):slaA len sh (.ptr o off) (.int k1 i) (.int k2 j)=if 0<=i/\i < j/\j<=len then (sh[o]?).bind fun cells=>if blkB cells/\off+len<=cells.length then some (.ss o (off+i.toNat) (j.toNat - i.toNat) 1) else none else none:=(rfl)
def clrX (z:Nat) (zero:List AV) (l:List (Nat × AV)) (m:List (Nat × Option (List AV))) (sh:LL):AV->Option AS
 | .ss o off n z'=>if z'=z/\zero.length=z then (sh[o]?).bind fun cells=>if blkB cells then (putC off (zeroRow zero n) cells).map fun c'=>ST l m (sh.set o c') else none else none
 | .sl _ _ []=>some (ST l m sh)
 | _=>none
def appOK (bytes n:Nat):Bool:=decide (n*bytes<=140737488355328/\n<=4611686018427387904)
@[go_sem] theorem appSA_nil (z' bytes z:Nat) (hz:0 < z) (r:List AV) (l2:LL):appSA z bytes sh (some (r :: l2)) (.sl .full z' [])=if appOK bytes (l2.length+1)=true then some (.ss sh.length 0 (l2.length+1) z,sh++[(r :: l2).flatten]) else none:=by
 simp [appSA,appOK,hz]
@[go_sem] theorem appSA_ss (o n bytes z:Nat) (hz:0 < z) (l2:LL):appSA z bytes sh (some l2) (.ss o 0 n z)=if appOK bytes (n+l2.length)=true then (sh[o]?).bind fun cells=>if blkB cells=true/\n*z=cells.length/\cells.all nownB=true then some (.ss sh.length 0 (n+l2.length) z,sh.set o dead++[cells++l2.flatten]) else none else none:=by
 simp [appSA,appOK,hz]
@[go_sem] theorem rowsS_sl (o:Own) (z:Nat) (x:LL):rowsS false z sh (.sl o z x)=some x:=by simp [rowsS,rowsA]
@[go_sem] theorem rowsS_ss (o off n z:Nat):rowsS false z sh (.ss o off n z)=(sh[o]?).bind fun cells=>rowsC off n z cells:=by simp [rowsS]
@[go_sem] theorem rowsS_str (s:List UInt8):rowsS true 1 sh (.str s)=some (bytesRows s):=by simp [rowsS,rowsA]
def slc0A (z:Nat):AV->Option AV
 | .sl _ _ _=>some (.sl .full z [])
 | .ss _ _ _ _=>some (.sl .full z [])
 | _=>none
def shfA (left:Bool) (x y:AV):Option AV:=shA left x y
@[go_sem] theorem op_shf (d:Nat) (left:Bool) (x y:AR):opX G (some d) (.shf left) [x,y] .none none (ST l m sh)=resX d l m sh (shfA left (ev (look .any l) x) (ev (look .any l) y)):=by
 apply op_pure;simp only[map_cons,map_nil,kf,kf0,shfA]
@[go_sem] theorem shfA_l (k k':IntKind) (a b:Int):shfA true (.int k a) (.int k' b)=if 0<=b then some (.int k (k.wrap (a*2 ^ (min b.toNat k.bits)))) else none:=by simp [shfA,shA]
@[go_sem] theorem shfA_r (k k':IntKind) (a b:Int):shfA false (.int k a) (.int k' b)=if 0<=b then some (.int k (a.fdiv (2 ^ (min b.toNat k.bits)))) else none:=by simp [shfA,shA]
def cviA (k:IntKind):AV->Option AV
 | .int _ n=>some (.int k (k.wrap n))
 | _=>none
@[go_sem] theorem cviA_int (k k':IntKind) (n:Int):cviA k (.int k' n)=some (.int k (k.wrap n)):=(rfl)
@[go_sem] theorem op_cvi (d:Nat) (k:IntKind) (x:AR):opX G (some d) (.cvi k) [x] .none none (ST l m sh)=resX d l m sh (cviA k (ev (look .any l) x)):=by
 apply op_pure;simp only[map_cons,map_nil,kf]
 cases ev (look AV.any l) x<;>rfl
def ixAA (agg:Bool) (z len:Nat):AV->AV->Option AV
 | .agg l,.int _ i=>if 0<=i/\i < len/\l.length=len*z then takeC agg (i.toNat*z) z l else none
 | _,_=>none
@[go_sem] theorem ixAA_agg (agg:Bool) (z len:Nat) (x:List AV) (k:IntKind) (i:Int):ixAA agg z len (.agg x) (.int k i)=if 0<=i/\i < len/\x.length=len*z then takeC agg (i.toNat*z) z x else none:=(rfl)
@[go_sem] theorem op_ixA (d:Nat) (agg:Bool) (z len:Nat) (x y:AR):opX G (some d) (.ixA agg z len) [x,y] .none none (ST l m sh)=resX d l m sh (ixAA agg z len (ev (look .any l) x) (ev (look .any l) y)):=by
 apply op_pure;simp only[map_cons,map_nil,kf]
 cases ev (look AV.any l) x<;>cases ev (look AV.any l) y<;>try rfl
 simp only[kf0,ixAA]
 split<;>rfl
@[go_sem] theorem op_mkm (d:Nat):opX G (some d) .mkm [] .sh none (ST l m sh)=some (ST (setl l d (.mp sh.length)) m (sh++[[.mapv []]])):=by
 have:opX G (some d) .mkm [] .sh none (ST l m sh)=resH d l m (some (.mp sh.length,sh++[[.mapv []]])):=by
  apply op_H;rfl
 rw[this];rfl
def lkpA (ok agg:Bool) (kk:List Nat) (zero:List AV) (sh:LL):AV->AV->Option AV
 | .mp o,k=>if scalarB k=true then (mapOf sh o).bind fun l=>(lkA kk k l).bind fun r=>lkR ok agg zero r else none
 | _,_=>none
@[go_sem] theorem lkpA_mp (ok agg:Bool) (kk:List Nat) (zero:List AV) (o:Nat) (k:AV):lkpA ok agg kk zero sh (.mp o) k=if scalarB k=true then (mapOf sh o).bind fun l=>(lkA kk k l).bind fun r=>lkR ok agg zero r else none:=(rfl)
@[go_sem] theorem op_lkp (d:Nat) (ok agg:Bool) (kk:List Nat) (zero:List AV) (x y:AR):opX G (some d) (.lkp ok agg kk zero) [x,y] .sh none (ST l m sh)=resX d l m sh (lkpA ok agg kk zero sh (ev (look .any l) x) (ev (look .any l) y)):=by
 unfold opX;simp only[map_cons,map_nil,kf,ST_frf];cases hx:ev (look AV.any l) x<;>try rfl
 rename_i o;simp only[kf0,lkpA,rdm_sh,true_and];by_cases hz:scalarB (ev (look AV.any l) y)=true
 ·rw[if_pos hz,if_pos hz]
  cases mapOf sh o with
  | none=>rfl
  | some y' =>
   simp only[Option.bind_some]
   cases lkA kk (ev (look AV.any l) y) y' with
   | none=>rfl
   | some r =>
    simp only[Option.bind_some]
    cases lkR ok agg zero r with
    | none=>rfl
    | some v=>exact put_same .sh d v
 ·rw[if_neg hz,if_neg hz];rfl
def mupA (kk:List Nat) (l:List (Nat × AV)) (m:List (Nat × Option (List AV))) (sh:LL):AV->AV->AV->Option AS
 | .mp o,k,v=>if aggScal k=true/\aggScal v=true then (mapOf sh o).bind fun x=>(muA kk k v x).map fun x'=>ST l m (sh.set o [.mapv x']) else none
 | _,_,_=>none
@[go_sem] theorem mupA_mp (kk:List Nat) (o:Nat) (k v:AV):mupA kk l m sh (.mp o) k v=if aggScal k=true/\aggScal v=true then (mapOf sh o).bind fun x=>(muA kk k v x).map fun x'=>ST l m (sh.set o [.mapv x']) else none:=(rfl)
@[go_sem] theorem op_mup (kk:List Nat) (x y z:AR):opX G none (.mup kk) [x,y,z] .sh none (ST l m sh)=mupA kk l m sh (ev (look .any l) x) (ev (look .any l) y) (ev (look .any l) z):=by
 unfold opX;simp only[map_cons,map_nil,kf,ST_frf];cases hx:ev (look AV.any l) x<;>try rfl
 rename_i o;simp only[kf0,mupA,rdm_sh,true_and];by_cases hz:aggScal (ev (look AV.any l) y)=true/\aggScal (ev (look AV.any l) z)=true
 ·rw[if_pos hz,if_pos hz]
  cases mapOf sh o with
  | none=>rfl
  | some y' =>
   simp only[Option.bind_some]
   cases muA kk (ev (look AV.any l) y) (ev (look AV.any l) z) y'<;>rfl
 ·rw[if_neg hz,if_neg hz]
def ldoA (sh:LL):AV->Option (AV × LL)
 | .ptr o off=>(sh[o]?).bind fun cells=>if blkB cells=true then (cells[off]?).bind fun x=>match x with
   | .sl .own z l=>some (x,sh.set o (cells.set off (.sl .no z l)))
   | .sl .full _ _=>some (x,sh)
   | _=>none else none
 | _=>none
@[go_sem] theorem op_ldo (d:Nat) (x:AR):opX G (some d) .ldo [x] .sh none (ST l m sh)=resH d l m (ldoA sh (ev (look .any l) x)):=by
 apply op_H;simp only[map_cons,map_nil,kf];cases hx:ev (look AV.any l) x<;>try rfl
 rename_i o off;simp only[kf0,ldoA,if_true]
 cases sh[o]? with
 | none=>rfl
 | some cells =>
  simp only[Option.bind_some];split
  ·cases cells[off]? with
   | none=>rfl
   | some y =>
    simp only[Option.bind_some]
    cases y<;>try rfl
    rename_i o z q;cases o<;>rfl
  ·rfl
def ldoB (o off:Nat) (cells:List AV) (sh:LL):AV->Option (AV × LL)
 | .sl .own z l=>some (.sl .own z l,sh.set o (cells.set off (.sl .no z l)))
 | .sl .full z l=>some (.sl .full z l,sh)
 | _=>none
@[go_sem] theorem ldoA_ptr (o off:Nat):ldoA sh (.ptr o off)=(sh[o]?).bind fun cells=>if blkB cells=true then (cells[off]?).bind fun x=>ldoB o off cells sh x else none:=by
 simp only[ldoA]
 congr 1
 funext cells
 split
 ·congr 1
  funext x
  unfold ldoB
  split<;>rfl
 ·rfl
def stoA (l:List (Nat × AV)) (m:List (Nat × Option (List AV))) (sh:LL):AV->AV->Option AS
 | .ptr o off,.sl md z x=>(sh[o]?).bind fun cells=>if blkB cells=true/\off < cells.length then some (ST l m (sh.set o (cells.set off (.sl md z x)))) else none
 | _,_=>none
@[go_sem] theorem stoA_ptr (o off:Nat) (md:Own) (z:Nat) (x:LL):stoA l m sh (.ptr o off) (.sl md z x)=(sh[o]?).bind fun cells=>if blkB cells=true/\off < cells.length then some (ST l m (sh.set o (cells.set off (.sl md z x)))) else none:=(rfl)
theorem sto_kf (x:AR) (v:AV):kf G 0 .sh .sto [ev (look .any l) x,v] (none,sh)=(match ev (look .any l) x,v with
  | .ptr o off,.sl md z y=>(sh[o]?).bind fun cells=>if blkB cells=true/\off < cells.length then some (.any,(none,sh.set o (cells.set off (.sl md z y)))) else none
  | _,_=>none):=by
 simp only[kf];cases hx:ev (look AV.any l) x<;>try rfl
 rename_i o off;simp only[kf0,if_true];have h0:∀ {α β:Type} (o:Option α),(o.bind fun _=>(none:Option β))=none:=fun o=>by cases o<;>rfl
 cases v<;>simp only[ite_self,h0]
@[go_sem] theorem op_stoT (x:AR) (s:Nat):opX G none .sto [x,.t s] .sh (some s) (ST l m sh)=stoA (setl l s (demV (look .any l s))) m sh (ev (look .any l) x) (look .any l s):=by
 unfold opX;have h:=sto_kf (G:=G) (l:=l) (sh:=sh) x (look .any l s);have h':kf G ((none:Option Nat).getD 0) .sh .sto ([x,AR.t s].map (ev (ST l m sh).fr)) (rdm (ST l m sh) .sh)=_:=h;rw[h'];cases hx:ev (look AV.any l) x<;>try rfl
 rename_i o off;cases hv:look AV.any l s<;>try rfl
 rename_i md z y;simp only[stoA]
 cases sh[o]? with
 | none=>rfl
 | some cells =>
  simp only[Option.bind_some];by_cases hc:blkB cells=true/\off < cells.length
  ·rw[if_pos hc,if_pos hc]
   show some (put (demS (ST l m _) (some s)) none _)=_;rw[demS_ST,hv];rfl
  ·rw[if_neg hc,if_neg hc]
@[go_sem] theorem op_stoC (x:AR) (v:AV):opX G none .sto [x,.c v] .sh none (ST l m sh)=stoA l m sh (ev (look .any l) x) v:=by
 unfold opX;have h:=sto_kf (G:=G) (l:=l) (sh:=sh) x v;have h':kf G ((none:Option Nat).getD 0) .sh .sto ([x,AR.c v].map (ev (ST l m sh).fr)) (rdm (ST l m sh) .sh)=_:=h;rw[h'];cases hx:ev (look AV.any l) x<;>try rfl
 rename_i o off
 cases v<;>try rfl
 rename_i md z y;simp only[stoA]
 cases sh[o]? with
 | none=>rfl
 | some cells =>
  simp only[Option.bind_some];by_cases hc:blkB cells=true/\off < cells.length
  ·rw[if_pos hc,if_pos hc];rfl
  ·rw[if_neg hc,if_neg hc]
def retP (d:Nat) (l:List (Nat × AV)) (m:List (Nat × Option (List AV))) (sh:LL):Option (AV × LL)->Option AS
 | some (v,[])=>some (ST (setl l d v) m sh)
 | _=>none
def retS (d:Nat) (l:List (Nat × AV)) (m:List (Nat × Option (List AV))):Option (AV × LL)->Option AS
 | some (v,sh')=>some (ST (setl l d v) m sh')
 | none=>none
@[go_sem] theorem retP_some (d:Nat) (v:AV):retP d l m sh (some (v,[]))=some (ST (setl l d v) m sh):=(rfl)
@[go_sem] theorem retS_some (d:Nat) (v:AV) (sh':LL):retS d l m (some (v,sh'))=some (ST (setl l d v) m sh'):=(rfl)
def okArgs (p:Bool) (xs:List AV):Bool:=xs.all (argB p)
@[go_sem] theorem okArgs_nil (p:Bool):okArgs p []=true:=(rfl)
@[go_sem] theorem okArgs_cons (p:Bool) (x:AV) (xs:List AV):okArgs p (x :: xs)=(argB p x && okArgs p xs):=(rfl)
@[go_sem] theorem argB_int (p:Bool) (k:IntKind) (n:Int):argB p (.int k n)=true:=(rfl)
@[go_sem] theorem argB_bool (p b:Bool):argB p (.bool b)=true:=(rfl)
@[go_sem] theorem argB_str (p:Bool) (s:List UInt8):argB p (.str s)=true:=(rfl)
@[go_sem] theorem argB_ptr (p:Bool) (a b:Nat):argB p (.ptr a b)=p:=(rfl)
@[go_sem] theorem argB_ss (p:Bool) (a b c d:Nat):argB p (.ss a b c d)=p:=(rfl)
@[go_sem] theorem argB_agg (p:Bool) (x:List AV):argB p (.agg x)=true:=(rfl)
@[go_sem] theorem argB_sl (p:Bool) (o:Own) (z:Nat) (x:LL):argB p (.sl o z x)=true:=(rfl)
def callPX (G:Calls') (d:Nat) (f:FuncId) (xs:List AV) (l:List (Nat × AV)) (m:List (Nat × Option (List AV))) (sh:LL):Option AS:=
 if okArgs false xs then retP d l m sh (G f (xs.map strV) []) else none
def callSX (G:Calls') (d:Nat) (f:FuncId) (xs:List AV) (l:List (Nat × AV)) (m:List (Nat × Option (List AV))) (sh:LL):Option AS:=
 if okArgs true xs then retS d l m (G f (xs.map demV) sh) else none
theorem call_none (d:Nat) (f:FuncId) (xs:List AV):(match callK G .none f xs (rdm (ST l m sh) .none) with | some (v,m')=>some (put (demS (wrm (ST l m sh) m' .none) none) (some d) v) | none=>none)=callPX G d f xs l m sh:=by
 unfold callK callPX okArgs;simp only;by_cases hc:xs.all (argB false)=true
 ·rw[if_pos hc,if_pos hc]
  cases hg:G f (xs.map strV) [] with
  | none=>rfl
  | some r =>
   obtain⟨v,sh'⟩:=r
   cases sh' with
   | nil =>
    show some (put (ST l m sh) (some d) v)=_;rw[put_ST];rfl
   | cons c cs=>rfl
 ·rw[if_neg hc,if_neg hc]
theorem call_sh (d:Nat) (f:FuncId) (xs:List AV):(match callK G .sh f xs (rdm (ST l m sh) .sh) with | some (v,m')=>some (put (demS (wrm (ST l m sh) m' .sh) none) (some d) v) | none=>none)=callSX G d f xs l m sh:=by
 unfold callK callSX okArgs;simp only[rdm_sh];by_cases hc:xs.all (argB true)=true
 ·rw[if_pos hc,if_pos hc]
  cases hg:G f (xs.map demV) sh with
  | none=>rfl
  | some r =>
   obtain⟨v,sh'⟩:=r;show some (put (ST l m sh') (some d) v)=_;rw[put_ST];rfl
 ·rw[if_neg hc,if_neg hc]
@[go_sem] theorem op_callP (d:Nat) (f:FuncId) (args:List AR):opX G (some d) (.call f) args .none none (ST l m sh)=callPX G d f (args.map (ev (look .any l))) l m sh:=call_none d f _
@[go_sem] theorem op_callS (d:Nat) (f:FuncId) (args:List AR):opX G (some d) (.call f) args .sh none (ST l m sh)=callSX G d f (args.map (ev (look .any l))) l m sh:=call_sh d f _
@[go_sem] theorem callPX_eq (d:Nat) (f:FuncId) (xs:List AV):callPX G d f xs l m sh=if okArgs false xs then retP d l m sh (G f (xs.map strV) []) else none:=(rfl)
@[go_sem] theorem callSX_eq (d:Nat) (f:FuncId) (xs:List AV):callSX G d f xs l m sh=if okArgs true xs then retS d l m (G f (xs.map demV) sh) else none:=(rfl)
def callvX (G:Calls') (d:Nat) (f:AV) (xs:List AV) (l:List (Nat × AV)) (m:List (Nat × Option (List AV))) (sh:LL):Option AS:=
 match f with
 | .fn f caps=>callPX G d f (xs++caps) l m sh
 | _=>none
def callvSX (G:Calls') (d:Nat) (f:AV) (xs:List AV) (l:List (Nat × AV)) (m:List (Nat × Option (List AV))) (sh:LL):Option AS:=
 match f with
 | .fn f caps=>callSX G d f (xs++caps) l m sh
 | _=>none
def retR (d:Nat) (l:List (Nat × AV)) (m:List (Nat × Option (List AV))) (sh:LL):Option (AV × LL)->Option AS
 | some (v,[])=>if scalB v=true then some (ST (setl l d v) m sh) else none
 | _=>none
@[go_sem] theorem retR_some (d:Nat) (v:AV):retR d l m sh (some (v,[]))=if scalB v=true then some (ST (setl l d v) m sh) else none:=(rfl)
@[go_sem] theorem scalB_bool (b:Bool):scalB (.bool b)=true:=(rfl)
@[go_sem] theorem scalarB_int (k:IntKind) (n:Int):scalarB (.int k n)=true:=(rfl)
@[go_sem] theorem aggScal_int (k:IntKind) (n:Int):aggScal (.int k n)=true:=(rfl)
@[go_sem] theorem aggScal_bool (b:Bool):aggScal (.bool b)=true:=(rfl)
@[go_sem] theorem aggScal_agg (x:List AV):aggScal (.agg x)=x.all scalarB:=(rfl)
@[go_sem] theorem snapV_int (k:IntKind) (n:Int):snapV sh (.int k n)=some (.int k n):=(rfl)
@[go_sem] theorem snapV_ss (o off n z:Nat):snapV sh (.ss o off n z)=(sh[o]?).bind fun cells=>(rowsC off n z cells).map fun l=>.sl .no z l:=(rfl)
def consO:Option AV->Option (List AV)->Option (List AV)
 | some x,some xs=>some (x :: xs)
 | _,_=>none
@[go_sem] theorem consO_some (x:AV) (xs:List AV):consO (some x) (some xs)=some (x :: xs):=(rfl)
@[go_sem] theorem snapL_nil:snapL sh []=some []:=(rfl)
@[go_sem] theorem snapL_cons (x:AV) (xs:List AV):snapL sh (x :: xs)=consO (snapV sh x) (snapL sh xs):=by
 simp only[snapL]
 cases snapV sh x<;>cases snapL sh xs<;>rfl
def callRX (G:Calls') (d:Nat) (f:FuncId) (ys:Option (List AV)) (l:List (Nat × AV)) (m:List (Nat × Option (List AV))) (sh:LL):Option AS:=
 ys.bind fun xs=>if okArgs false xs then retR d l m sh (G f (xs.map strV) []) else none
@[go_sem] theorem callRX_some (d:Nat) (f:FuncId) (xs:List AV):callRX G d f (some xs) l m sh=if okArgs false xs then retR d l m sh (G f (xs.map strV) []) else none:=(rfl)
theorem call_R (d:Nat) (f:FuncId) (xs:List AV):(match callRK G .sh f xs (rdm (ST l m sh) .sh) with | some (v,m')=>some (put (demS (wrm (ST l m sh) m' .sh) none) (some d) v) | none=>none)=callRX G d f (snapL sh xs) l m sh:=by
 unfold callRK callRX okArgs;simp only[rdm_sh]
 cases snapL sh xs with
 | none=>rfl
 | some ys =>
  simp only[Option.bind_some];by_cases hc:ys.all (argB false)=true
  ·rw[if_pos hc,if_pos hc]
   cases hg:G f (ys.map strV) [] with
   | none=>rfl
   | some r =>
    obtain⟨v,sh'⟩:=r
    cases sh' with
    | nil =>
     simp only[Option.bind_some,isEmpty_nil,Bool.true_and,retR];by_cases hv:scalB v=true
     ·rw[if_pos hv,if_pos hv];exact put_same .sh d v
     ·rw[if_neg hv,if_neg hv]
    | cons c cs=>rfl
  ·rw[if_neg hc,if_neg hc]
@[go_sem] theorem op_callR (d:Nat) (f:FuncId) (args:List AR):opX G (some d) (.callR f) args .sh none (ST l m sh)=callRX G d f (snapL sh (args.map (ev (look .any l)))) l m sh:=call_R d f _
def callvRX (G:Calls') (d:Nat) (f:AV) (xs:List AV) (l:List (Nat × AV)) (m:List (Nat × Option (List AV))) (sh:LL):Option AS:=
 match f with
 | .fn f caps=>callRX G d f (snapL sh (xs++caps)) l m sh
 | _=>none
@[go_sem] theorem bin_and (k:IntKind) (a b:Int):binA .and (.int k a) (.int k b)=some (.int k (k.wrap (((a % 2 ^ k.bits).toNat &&& (b % 2 ^ k.bits).toNat:Nat):Int))):=by simp [binA]
@[go_sem] theorem bin_or (k:IntKind) (a b:Int):binA .or (.int k a) (.int k b)=some (.int k (k.wrap (((a % 2 ^ k.bits).toNat ||| (b % 2 ^ k.bits).toNat:Nat):Int))):=by simp [binA]
@[go_sem] theorem bin_add (k:IntKind) (a b:Int):binA .add (.int k a) (.int k b)=some (.int k (k.wrap (a+b))):=by simp [binA]
@[go_sem] theorem bin_sub (k:IntKind) (a b:Int):binA .sub (.int k a) (.int k b)=some (.int k (k.wrap (a - b))):=by simp [binA]
@[go_sem] theorem bin_mul (k:IntKind) (a b:Int):binA .mul (.int k a) (.int k b)=some (.int k (k.wrap (a*b))):=by simp [binA]
@[go_sem] theorem bin_quo (k:IntKind) (a b:Int):binA .quo (.int k a) (.int k b)=if b=0 then none else some (.int k (k.wrap (a.tdiv b))):=by simp [binA]
@[go_sem] theorem bin_rem (k:IntKind) (a b:Int):binA .rem (.int k a) (.int k b)=if b=0 then none else some (.int k (a.tmod b)):=by simp [binA]
@[go_sem] theorem bin_eql (k:IntKind) (a b:Int):binA .eql (.int k a) (.int k b)=some (.bool (decide (a=b))):=by simp [binA];rfl
@[go_sem] theorem bin_neq (k:IntKind) (a b:Int):binA .neq (.int k a) (.int k b)=some (.bool (decide (a≠b))):=by simp [binA,bne];rfl
@[go_sem] theorem bin_lss (k:IntKind) (a b:Int):binA .lss (.int k a) (.int k b)=some (.bool (decide (a < b))):=by simp [binA]
@[go_sem] theorem bin_leq (k:IntKind) (a b:Int):binA .leq (.int k a) (.int k b)=some (.bool (decide (a<=b))):=by simp [binA]
@[go_sem] theorem bin_gtr (k:IntKind) (a b:Int):binA .gtr (.int k a) (.int k b)=some (.bool (decide (b < a))):=by simp [binA]
@[go_sem] theorem bin_geq (k:IntKind) (a b:Int):binA .geq (.int k a) (.int k b)=some (.bool (decide (b<=a))):=by simp [binA]
@[go_sem] theorem bins_add (a b:List UInt8):binA .add (.str a) (.str b)=if a.length+b.length<=140737488355328 then some (.str (a++b)) else none:=(rfl)
@[go_sem] theorem bins_eql (a b:List UInt8):binA .eql (.str a) (.str b)=some (.bool (a == b)):=(rfl)
@[go_sem] theorem bins_neq (a b:List UInt8):binA .neq (.str a) (.str b)=some (.bool (a != b)):=(rfl)
@[go_sem] theorem bins_lss (a b:List UInt8):binA .lss (.str a) (.str b)=some (.bool (Op.bytesLess a b)):=(rfl)
@[go_sem] theorem bins_leq (a b:List UInt8):binA .leq (.str a) (.str b)=some (.bool (Op.bytesLess a b || a == b)):=(rfl)
@[go_sem] theorem bins_gtr (a b:List UInt8):binA .gtr (.str a) (.str b)=some (.bool !(Op.bytesLess a b || a == b)):=(rfl)
theorem callX_eq (F:AFun) (args:List AV) (sh:LL) (h:args.length=F.nargs):callX G F args sh=finA F sh (execX G F.body (ST (argl 0 args) [] sh)):=by
 unfold callX;rw[if_pos h,initA_ST]
def finX (keep:Bool) (sh0:LL) (res:List ARes) (r:Option (AX × AS)):Option (AV × LL):=finA ⟨0,keep,.skip,res⟩ sh0 r
def packX (keep:Bool) (sh0:LL) (res:List ARes) (σ:AS):Option (AV × LL):=match resultsA keep sh0 σ res with
  | some vs=>packA keep sh0.length vs σ.sh
  | none=>none
@[go_sem] theorem finX_norm (keep:Bool) (sh0:LL) (res:List ARes) (σ:AS):finX keep sh0 res (some (.norm,σ))=packX keep sh0 res σ:=(rfl)
@[go_sem] theorem finX_ret (keep:Bool) (sh0:LL) (res:List ARes) (σ:AS):finX keep sh0 res (some (.ret,σ))=packX keep sh0 res σ:=(rfl)
@[go_sem] theorem finX_ite (keep:Bool) (sh0:LL) (res:List ARes) (c:Prop) [Decidable c] (x y:Option (AX × AS)):finX keep sh0 res (if c then x else y)=if c then finX keep sh0 res x else finX keep sh0 res y:=by split<;>rfl
def cellR (agg:Bool) (n:Nat) (m:List (Nat × Option (List AV))) (sh:LL):AV->Option AV
 | .loc s off=>(look none m s).bind fun cells=>ldC agg off n cells
 | .ptr o off=>(sh[o]?).bind fun cells=>if blkB cells then ldC agg off n cells else none
 | _=>none
@[go_sem] theorem cellR_loc (agg:Bool) (n s off:Nat):cellR agg n m sh (.loc s off)=(look none m s).bind fun cells=>ldC agg off n cells:=(rfl)
def resY (keep:Bool) (sh0:LL) (l:List (Nat × AV)) (m:List (Nat × Option (List AV))) (sh:LL):List ARes->Option (List AV)
 | []=>some []
 | .tmp t :: rs=>consO (frzV keep sh0 sh (strV (look .any l t))) (resY keep sh0 l m sh rs)
 | .tmpD t :: rs=>consO (frzV keep sh0 sh (demV (look .any l t))) (resY keep sh0 l m sh rs)
 | .cell t agg n :: rs=>consO ((cellR agg n m sh (look .any l t)).bind (frzV keep sh0 sh)) (resY keep sh0 l m sh rs)
@[go_sem] theorem resY_nil (keep:Bool) (sh0:LL):resY keep sh0 l m sh []=some []:=(rfl)
@[go_sem] theorem resY_tmp (keep:Bool) (sh0:LL) (t:Nat) (rs:List ARes):resY keep sh0 l m sh (.tmp t :: rs)=consO (frzV keep sh0 sh (strV (look .any l t))) (resY keep sh0 l m sh rs):=(rfl)
@[go_sem] theorem resY_tmpD (keep:Bool) (sh0:LL) (t:Nat) (rs:List ARes):resY keep sh0 l m sh (.tmpD t :: rs)=consO (frzV keep sh0 sh (demV (look .any l t))) (resY keep sh0 l m sh rs):=(rfl)
@[go_sem] theorem resY_cell (keep:Bool) (sh0:LL) (t:Nat) (agg:Bool) (n:Nat) (rs:List ARes):resY keep sh0 l m sh (.cell t agg n :: rs)=consO ((cellR agg n m sh (look .any l t)).bind (frzV keep sh0 sh)) (resY keep sh0 l m sh rs):=(rfl)
theorem resY_eq (keep:Bool) (sh0:LL):∀ rs,resultsA keep sh0 (ST l m sh) rs=resY keep sh0 l m sh rs
 | []=>rfl
 | .tmp t :: rs=>by
  simp only[resultsA,resA,Option.bind_some,resY,resY_eq keep sh0 rs];show (match frzV keep sh0 sh (strV (look .any l t)),resY keep sh0 l m sh rs with | some v,some vs=>some (v :: vs) | _,_=>none)=_
  cases frzV keep sh0 sh (strV (look .any l t))<;>cases resY keep sh0 l m sh rs<;>rfl
 | .tmpD t :: rs=>by
  simp only[resultsA,resA,Option.bind_some,resY,resY_eq keep sh0 rs];show (match frzV keep sh0 sh (demV (look .any l t)),resY keep sh0 l m sh rs with | some v,some vs=>some (v :: vs) | _,_=>none)=_
  cases frzV keep sh0 sh (demV (look .any l t))<;>cases resY keep sh0 l m sh rs<;>rfl
 | .cell t agg n :: rs=>by
  simp only[resultsA,resY,resY_eq keep sh0 rs];have h1:resA (ST l m sh) (.cell t agg n)=cellR agg n m sh (look .any l t):=by
   simp only[resA,ST_fr]
   cases look AV.any l t<;>rfl
  rw[h1];show (match (cellR agg n m sh (look .any l t)).bind (frzV keep sh0 sh),resY keep sh0 l m sh rs with | some v,some vs=>some (v :: vs) | _,_=>none)=_
  cases (cellR agg n m sh (look .any l t)).bind (frzV keep sh0 sh)<;>cases resY keep sh0 l m sh rs<;>rfl
def tupV:List AV->AV
 | [v]=>v
 | vs=>.tup vs
@[go_sem] theorem tupV_one (v:AV):tupV [v]=v:=(rfl)
@[go_sem] theorem tupV_nil:tupV []=.tup []:=(rfl)
@[go_sem] theorem tupV_more (v u:AV) (r:List AV):tupV (v :: u :: r)=.tup (v :: u :: r):=(rfl)
def okOut (k:Bool) (vs:List AV):Bool:=vs.all (outB k)
@[go_sem] theorem okOut_nil (k:Bool):okOut k []=true:=(rfl)
@[go_sem] theorem okOut_cons (k:Bool) (v:AV) (vs:List AV):okOut k (v :: vs)=(outB k v && okOut k vs):=(rfl)
def refsOk (keep:Bool) (n0:Nat) (sh:LL):Bool:=keep || (sh.take n0).all fun c=>c.all (refLt n0)
@[go_sem] theorem refsOk_keep (n0:Nat):refsOk true n0 sh=true:=(rfl)
@[go_sem] theorem refsOk_zero:refsOk false 0 sh=true:=(rfl)
def packY (keep:Bool) (n0:Nat) (sh:LL):Option (List AV)->Option (AV × LL)
 | some vs=>if okOut keep vs=true/\refsOk keep n0 sh=true then some (tupV vs,if keep then sh else sh.take n0) else none
 | none=>none
@[go_sem] theorem packY_some (keep:Bool) (n0:Nat) (vs:List AV):packY keep n0 sh (some vs)=if okOut keep vs=true/\refsOk keep n0 sh=true then some (tupV vs,if keep then sh else sh.take n0) else none:=(rfl)
@[go_sem] theorem packX_eq (keep:Bool) (sh0:LL) (res:List ARes):packX keep sh0 res (ST l m sh)=packY keep sh0.length sh (resY keep sh0 l m sh res):=by
 unfold packX;rw[resY_eq]
 cases resY keep sh0 l m sh res with
 | none=>rfl
 | some vs =>
  show packA keep sh0.length vs sh=_;unfold packA packY okOut refsOk;simp only[Bool.or_eq_true];rfl
@[go_sem] theorem frzV_int (keep:Bool) (sh0:LL) (k:IntKind) (n:Int):frzV keep sh0 sh (.int k n)=some (.int k n):=(rfl)
@[go_sem] theorem frzV_bool (keep:Bool) (sh0:LL) (b:Bool):frzV keep sh0 sh (.bool b)=some (.bool b):=(rfl)
@[go_sem] theorem frzV_str (keep:Bool) (sh0:LL) (s:List UInt8):frzV keep sh0 sh (.str s)=some (.str s):=(rfl)
@[go_sem] theorem frzV_sl (keep:Bool) (sh0:LL) (o:Own) (z:Nat) (x:LL):frzV keep sh0 sh (.sl o z x)=some (.sl o z x):=(rfl)
@[go_sem] theorem frzV_agg (keep:Bool) (sh0:LL) (x:List AV):frzV keep sh0 sh (.agg x)=some (.agg x):=(rfl)
@[go_sem] theorem frzV_ptr (keep:Bool) (sh0:LL) (a b:Nat):frzV keep sh0 sh (.ptr a b)=some (.ptr a b):=(rfl)
@[go_sem] theorem frzV_keep (sh0:LL) (o off n z:Nat):frzV true sh0 sh (.ss o off n z)=some (.ss o off n z):=(rfl)
@[go_sem] theorem frzV_ss (sh0:LL) (o off n z:Nat):frzV false sh0 sh (.ss o off n z)=if sh0.length<=o/\sameDead sh0 sh=true then snapV sh (.ss o off n z) else none:=(rfl)
@[go_sem] theorem outB_ss (p:Bool) (a b c d:Nat):outB p (.ss a b c d)=p:=(rfl)
@[go_sem] theorem outB_int (p:Bool) (k:IntKind) (n:Int):outB p (.int k n)=true:=(rfl)
@[go_sem] theorem outB_bool (p b:Bool):outB p (.bool b)=true:=(rfl)
@[go_sem] theorem outB_str (p:Bool) (s:List UInt8):outB p (.str s)=true:=(rfl)
@[go_sem] theorem outB_ptr (p:Bool) (a b:Nat):outB p (.ptr a b)=p:=(rfl)
@[go_sem] theorem outB_sl (p:Bool) (o:Own) (z:Nat) (x:LL):outB p (.sl o z x)=true:=(rfl)
@[go_sem] theorem outB_agg (p:Bool) (x:List AV):outB p (.agg x)=true:=(rfl)
theorem contract {B:Calls'} {T:FuncId->Option AFun} {f:FuncId} (F:AFun) {args:List AV} {sh:LL} {r:AV × LL} (hB:B f args sh=none) (hT:T f=some F) (hn:args.length=F.nargs)
  (h:finX F.keep sh F.res (execX (Gx B T) F.body (ST (argl 0 args) [] sh))=some r):Gx B T f args sh=some r:=by
 letI:=tab0
 refine Gx_of hB hT ?_;rw[callX_eq _ _ _ hn];exact h
end
end Go.Av
namespace Go.Av
variable {G:Calls'} {l:List (Nat × AV)} {m:List (Nat × Option (List AV))} {sh:LL}
noncomputable def loopY (G:Calls') (L:ACode) (kill:List Nat) (r:Option (AX × AS)):Option (AX × AS):=match r with
 | some (.norm,σ')=>execX G L (forget kill σ')
 | r=>r
theorem scrubV_idem (a:List Nat) (v:AV):scrubV a (scrubV a v)=scrubV a v:=by
 cases v with
 | loc s o=>by_cases h:s∈a<;>simp [scrubV,h]
 | _=>rfl
theorem forget_idem (kill:List Nat) (σ:AS):forget kill (forget kill σ)=forget kill σ:=by
 unfold forget;simp only[AS.mk.injEq,and_true];refine⟨?_,?_⟩
 ·funext t
  by_cases h:t∈kill
  ·simp [h]
  ·simp [h,scrubV_idem]
 ·funext t
  by_cases h:t∈kill<;>simp [h]
theorem Y_loop {L:ACode} {kill:List Nat} {a:ACode} (h:L=.loop kill a) (l:List (Nat × AV)) (m:List (Nat × Option (List AV))) (sh:LL) :
  execX G L (ST l m sh)=loopY G L kill (execX G a (ST (killl kill l) (dropl kill m) sh)):=by
 subst h;rw[X_loop];have hf:∀ σ,execX G (.loop kill a) σ=execX G (.loop kill a) (forget kill σ):=by
  intro σ;show iterX (fun σ=>execX G a (forget kill σ)) σ=iterX (fun σ=>execX G a (forget kill σ)) (forget kill σ);rw[@iterX_eq tab0,@iterX_eq tab0 _ (forget kill σ)];simp only[forget_idem]
 cases execX G a (ST (killl kill l) (dropl kill m) sh) with
 | none=>rfl
 | some r =>
  obtain⟨x,σ⟩:=r
  cases x with
  | norm=>exact hf σ
  | _=>rfl
@[go_sem] theorem loopY_norm (L:ACode) (kill:List Nat) (l:List (Nat × AV)) (m:List (Nat × Option (List AV))) (sh:LL):loopY G L kill (some (.norm,ST l m sh))=execX G L (ST (killl kill l) (dropl kill m) sh):=by
 rw[<- forget_ST];rfl
@[go_sem] theorem loopY_ex (L:ACode) (kill:List Nat) (i:Nat) (σ:AS):loopY G L kill (some (.ex i,σ))=some (.ex i,σ):=(rfl)
@[go_sem] theorem loopY_ret (L:ACode) (kill:List Nat) (σ:AS):loopY G L kill (some (.ret,σ))=some (.ret,σ):=(rfl)
@[go_sem] theorem loopY_none (L:ACode) (kill:List Nat):loopY G L kill none=none:=(rfl)
@[go_sem] theorem loopY_ite (L:ACode) (kill:List Nat) (c:Prop) [Decidable c] (x y:Option (AX × AS)):loopY G L kill (if c then x else y)=if c then loopY G L kill x else loopY G L kill y:=by split<;>rfl
@[go_sem] theorem isNone_none':(none:Option (List AV)).isNone=true:=(rfl)
def consR:Option (List AV)->Option LL->Option LL
 | some r,some rs=>some (r :: rs)
 | _,_=>none
def mkRows (z:Nat):List AV->Option LL
 | []=>some []
 | x :: xs=>consR (cellsOfV z x) (mkRows z xs)
@[go_sem] theorem mkRows_nil (z:Nat):mkRows z []=some []:=(rfl)
@[go_sem] theorem mkRows_cons (z:Nat) (x:AV) (xs:List AV):mkRows z (x :: xs)=consR (cellsOfV z x) (mkRows z xs):=(rfl)
@[go_sem] theorem consR_some (r:List AV) (rs:LL):consR (some r) (some rs)=some (r :: rs):=(rfl)
theorem cellsOfV_len {n:Nat} {x:AV} {cs:List AV} (h:cellsOfV n x=some cs):cs.length=n:=by
 unfold cellsOfV at h
 split at h
 ·split at h
  ·cases h;assumption
  ·cases h
 ·split at h
  ·cases h;rename_i h1;simp [h1.1]
  ·cases h
theorem mkRows_len {z:Nat}:∀ {xs:List AV} {rs:LL},mkRows z xs=some rs->rs.length=xs.length/\∀ r∈rs,r.length=z
 | [],rs,h=>by cases h;simp
 | x :: xs,rs,h=>by
  simp only[mkRows] at h;cases h1:cellsOfV z x with
  | none=>rw[h1] at h;cases h
  | some r =>
   cases h2:mkRows z xs with
   | none=>rw[h1,h2] at h;cases h
   | some rs' =>
    rw[h1,h2] at h;cases h
    have:=mkRows_len h2
    have h3:=cellsOfV_len h1;simp only[length_cons,this.1,true_and,mem_cons,forall_eq_or_imp];exact⟨h3,this.2⟩
theorem rowsOf_flat' (z:Nat):∀ (rs:LL),(∀ r∈rs,r.length=z)->rowsOf z rs.length rs.flatten=rs
 | [],_=>rfl
 | r :: rs,h=>by
  have h1:=h r (by simp);have h2:=rowsOf_flat' z rs (fun r hr=>h r (by simp [hr]));show ((r :: rs).flatten).take z :: rowsOf z rs.length (((r :: rs).flatten).drop z)=_;rw[flatten_cons,take_left' h1,drop_left' h1,h2]
theorem fillA_range {z:Nat} {zero:List AV} (hz:zero.length=z):∀ (xs:List AV) (pre:List AV) (k:Nat),pre.length=k*z ->
  fillA (pre++zeroRow zero xs.length) ((List.range' k xs.length).map fun i=>(i*z,z)) xs=(mkRows z xs).map fun rs=>pre++rs.flatten
 | [],pre,k,h=>by simp [fillA,mkRows,zeroRow]
 | x :: xs,pre,k,h=>by
  simp only[length_cons,range'_succ,map_cons,fillA,mkRows];cases h1:cellsOfV z x with
  | none=>cases h3:mkRows z xs<;>rfl
  | some cs =>
   have hc:=cellsOfV_len h1;have h2:putC (k*z) cs (pre++zeroRow zero (xs.length+1))=some ((pre++cs)++zeroRow zero xs.length):=by
    rw[show zeroRow zero (xs.length+1)=zero++zeroRow zero xs.length from rfl];unfold putC;rw[if_pos (by simp only[length_append];omega)];rw[take_left' h,<- append_assoc pre zero,drop_left' (by simp [hc,h,hz])]
   simp only[h2];rw[fillA_range hz xs (pre++cs) (k+1) (by simp [h,hc,Nat.add_mul])]
   cases mkRows z xs with
   | none=>rfl
   | some rs=>simp [consR]
theorem mksA_rows {z:Nat} {zero:List AV} {len:Nat} {pl:List Nat} {xs:List AV} (hz:zero.length=z) (hl:xs.length=len) (hp:pl=List.range' 0 len) :
  mksA z zero len pl xs=(mkRows z xs).map fun rs=>.sl .full z rs:=by
 subst hl;subst hp;unfold mksA;rw[show zeroRow zero xs.length=[]++zeroRow zero xs.length from rfl,fillA_range hz xs [] 0 (by simp)];cases h:mkRows z xs with
 | none=>rfl
 | some rs =>
  have:=mkRows_len h
  simp only[Option.map_some,nil_append];rw[<- this.1,rowsOf_flat' z rs this.2]
@[go_sem] theorem mks_1_1 (c0 x0:AV):mksA 1 [c0] 1 [0] [x0]=(mkRows 1 [x0]).map fun rs=>.sl .full 1 rs:=mksA_rows rfl rfl rfl
@[go_sem] theorem mks_1_5 (c0 x0 x1 x2 x3 x4:AV):mksA 1 [c0] 5 [0,1,2,3,4] [x0,x1,x2,x3,x4]=(mkRows 1 [x0,x1,x2,x3,x4]).map fun rs=>.sl .full 1 rs:=mksA_rows rfl rfl rfl
@[go_sem] theorem mks_3_1 (c0 c1 c2 x0:AV):mksA 3 [c0,c1,c2] 1 [0] [x0]=(mkRows 3 [x0]).map fun rs=>.sl .full 3 rs:=mksA_rows rfl rfl rfl
theorem appOK_le {bytes n:Nat} (h1:bytes<=100000) (h2:n<=1000000000):appOK bytes n=true:=by
 have:n*bytes<=1000000000*100000:=Nat.mul_le_mul h2 h1
 simp only[appOK,decide_eq_true_eq];omega
theorem appA_gen (md o:Own) (hm:md≠.no) (z bytes:Nat) (hz:0 < z) (x y:LL) :
  appA false z bytes (.sl md z x) (.sl o z y)=if appOK bytes (x.length+y.length)=true then some (.sl .own z (x++y)) else none:=by
 simp [appA,rowsA,appOK,hm,hz]
def fillX (cells:Option (List AV)) (pl:List (Nat × Nat)) (xs:List AV):Option (List AV):=cells.bind fun c=>fillA c pl xs
@[go_sem] theorem fillA_nil (cells:List AV):fillA cells [] []=some cells:=(rfl)
@[go_sem] theorem fillA_cons (cells:List AV) (off n:Nat) (pl:List (Nat × Nat)) (x:AV) (xs:List AV):fillA cells ((off,n) :: pl) (x :: xs)=fillX ((cellsOfV n x).bind fun cs=>putC off cs cells) pl xs:=by
 simp only[fillA,fillX]
 cases cellsOfV n x with
 | none=>rfl
 | some cs=>simp only[Option.bind_some];cases putC off cs cells<;>rfl
@[go_sem] theorem fillX_some (c:List AV) (pl:List (Nat × Nat)) (xs:List AV):fillX (some c) pl xs=fillA c pl xs:=(rfl)
def fillRX (cells:Option (List AV)) (pl:List (Nat × Nat)) (xs:List AV):Option (List AV):=cells.bind fun c=>fillR c pl xs
@[go_sem] theorem fillR_nil (cells:List AV):fillR cells [] []=some cells:=(rfl)
@[go_sem] theorem fillR_cons (cells:List AV) (off n:Nat) (pl:List (Nat × Nat)) (x:AV) (xs:List AV):fillR cells ((off,n) :: pl) (x :: xs)=fillRX ((cellsOfO n x).bind fun cs=>putC off cs cells) pl xs:=by
 simp only[fillR,fillRX]
 cases cellsOfO n x with
 | none=>rfl
 | some cs=>simp only[Option.bind_some];cases putC off cs cells<;>rfl
@[go_sem] theorem fillRX_some (c:List AV) (pl:List (Nat × Nat)) (xs:List AV):fillRX (some c) pl xs=fillR c pl xs:=(rfl)
def putL:Nat->List AV->List AV->Option (List AV)
 | _,[],cells=>some cells
 | _,_ :: _,[]=>none
 | 0,c :: cs,_ :: r=>(putL 0 cs r).map fun t=>c :: t
 | n+1,c :: cs,x :: r=>(putL n (c :: cs) r).map fun t=>x :: t
theorem putC_L:∀ (n:Nat) (cs cells:List AV),cs≠[]->putC n cs cells=putL n cs cells
 | _,[],_,h=>absurd rfl h
 | n,c :: cs,[],_=>by simp [putC,putL]
 | 0,[c],x :: r,_=>by simp [putC,putL]
 | 0,c :: c2 :: cs,x :: r,_=>by
  have:=putC_L 0 (c2 :: cs) r (by simp)
  simp only[putL];rw[<- this];unfold putC;simp only[length_cons,Nat.zero_add,take_zero,nil_append,Nat.add_le_add_iff_right]
  split<;>simp
 | n+1,c :: cs,x :: r,_=>by
  have:=putC_L n (c :: cs) r (by simp)
  simp only[putL];rw[<- this];unfold putC;simp only[length_cons];by_cases h:n+(cs.length+1)<=r.length
  ·rw[if_pos h,if_pos (by omega)]
   simp [show n+1+(cs.length+1)=n+(cs.length+1)+1 by omega]
  ·rw[if_neg h,if_neg (by omega)];rfl
@[go_sem] theorem putC_eqL (n:Nat) (c:AV) (cs cells:List AV):putC n (c :: cs) cells=putL n (c :: cs) cells:=putC_L _ _ _ (by simp)
@[go_sem] theorem putL_nil (n:Nat) (cells:List AV):putL n [] cells=some cells:=by cases n<;>simp [putL]
@[go_sem] theorem putL_z (c x:AV) (cs r:List AV):putL 0 (c :: cs) (x :: r)=(putL 0 cs r).map fun t=>c :: t:=(rfl)
@[go_sem] theorem putL_s (n:Nat) (c x:AV) (cs r:List AV):putL (n+1) (c :: cs) (x :: r)=(putL n (c :: cs) r).map fun t=>x :: t:=(rfl)
def demO:Own->Own
 | .own=>.no
 | o=>o
@[go_sem] theorem demO_own:demO .own=.no:=(rfl)
@[go_sem] theorem demO_no:demO .no=.no:=(rfl)
@[go_sem] theorem demO_full:demO .full=.full:=(rfl)
theorem demV_sl (o:Own) (z:Nat) (x:LL):demV (.sl o z x)=.sl (demO o) z x:=by cases o<;>rfl
def mdK (o:Own):Nat->Own
 | 0=>o
 | _+1=>.own
theorem natOf_pos {n:Int} (h:0<=n):natOf n=some n.toNat:=by simp [natOf,h]
@[go_sem] theorem slcA_hi (md:Own) (z:Nat) (x:LL) (k:IntKind) (n:Int) (h:0<=n) (h2:n<=(x.length:Int)):sliceA false z (.sl md z x) none (some (.int k n))=some (.sl .no z (x.take n.toNat)):=by
 simp only[sliceA,boundA,natOf_pos h];rw[if_pos ⟨by omega,by omega,.inl trivial⟩];simp
@[go_sem] theorem slcA_lo (md:Own) (z:Nat) (x:LL) (k:IntKind) (n:Int) (h:0<=n) (h2:n<=(x.length:Int)):sliceA false z (.sl md z x) (some (.int k n)) none=some (.sl .no z (x.drop n.toNat)):=by
 simp only[sliceA,boundA,natOf_pos h];rw[if_pos ⟨by omega,by omega,.inl trivial⟩];simp
@[go_sem] theorem slcS_hi (z:Nat) (x:List UInt8) (k:IntKind) (n:Int) (h:0<=n) (h2:n<=(x.length:Int)):sliceA true z (.str x) none (some (.int k n))=some (.str (x.take n.toNat)):=by
 simp only[sliceA,boundA,natOf_pos h];rw[if_pos ⟨by omega,by omega⟩];simp
@[go_sem] theorem slcS_lo (z:Nat) (x:List UInt8) (k:IntKind) (n:Int) (h:0<=n) (h2:n<=(x.length:Int)):sliceA true z (.str x) (some (.int k n)) none=some (.str (x.drop n.toNat)):=by
 simp only[sliceA,boundA,natOf_pos h];rw[if_pos ⟨by omega,by omega⟩];simp
@[go_sem] theorem slcS_both (z:Nat) (x:List UInt8) (k k':IntKind) (n j:Int) (h:0<=n) (h1:n<=j) (h2:j<=(x.length:Int)):sliceA true z (.str x) (some (.int k n)) (some (.int k' j))=some (.str ((x.take j.toNat).drop n.toNat)):=by
 simp only[sliceA,boundA,natOf_pos h,natOf_pos (Int.le_trans h h1)];rw[if_pos ⟨by omega,by omega⟩]
theorem w64 {n:Int} (h1:-9223372036854775808<=n) (h2:n<=9223372036854775807):IntKind.i64.wrap n=n:=IntWalk.i64_in n ⟨h1,h2⟩
end Go.Av
namespace Go.Av
variable [Gtab]
open Go.ChangeShapes Go.WideShapes Go.ChangeAt Go.RowKit
section
variable {H:Type} {enc:TypeId × Value->H} {P:Program}
theorem trodAll_below {W W':World} {sp:Nat->Bool} (hl:laidOutB P=true) (hb:Below W.heap.size W W') :
  ∀ {ts:List TypeId} {vs:List Value} {ds:List (DataW H)} {ps:List MemPlace},(ts.all fun t=>P.readableRec t && decide (t < P.types.size))=true ->
  DataW.TrodAll enc P W 0 (fun _=>true) true ts vs ds ps->(∀ p∈ps,p.block < W.heap.size)->(∀ p∈ps,sp p.block=true)->DataW.TrodAll enc P W' 0 sp true ts vs ds ps
 | [],_,_,_,_,h,_,_=>by
  obtain⟨rfl,rfl,rfl⟩:=trodAll_nil h;exact trodAll_mk0
 | t :: ts,_,_,_,ha,h,hlt,hs=>by
  obtain⟨v,vs,d,ds,p,q,rfl,rfl,rfl,h1,h2⟩:=trodAll_cons h;simp only[all_cons,Bool.and_eq_true,decide_eq_true_eq] at ha;refine⟨p,q,?_,?_,rfl⟩
  ·exact WideElems.Trod_stays hl ha.1.1 ha.1.2 h1 (fun x hx=>hb.same (hlt x (by simp [hx]))) (fun x hx=>hs x (by simp [hx]))
  ·exact trodAll_below hl hb ha.2 h2 (fun x hx=>hlt x (by simp [hx])) (fun x hx=>hs x (by simp [hx]))
theorem post_below {f:Func} {s:ChangeSpec} {apart fresh handsOn again:Bool} {W W':World} {args:Array Value} {v:Value} {ds gs:List (DataW H)} {before pa pv:List MemPlace}
  (hW:DataW.Whole enc P f.params.toList s.vars apart W args.toList ds gs before)
  (hres:∀ (b:Nat) (sp:Nat->Bool) (hd:Bool),DataW.TrodAll enc P W' b sp hd f.resultTypes.toList (v.resultList f.resultTypes.size) (s.fn H (ds++gs)).results [])
  (hargs:∀ sp:Nat->Bool,(∀ p∈before,sp p.block=true)->DataW.TrodAll enc P W' 0 sp true f.params.toList args.toList (s.fn H (ds++gs)).args pa)
  (hvars:∀ sp:Nat->Bool,(∀ p∈before,sp p.block=true)->DataW.TrodVars enc P W' sp s.vars (s.fn H (ds++gs)).vars pv)
  (hps:before=pa++pv) (hb:Below W.heap.size W W')
  (hok:∀ (j:Nat) (t:TypeId) (r:Value),f.resultTypes[j]?=some t->(v.resultList f.resultTypes.size)[j]?=some r->Value.okWide P W' .any 0 t r) :
  s.post enc P f apart fresh handsOn again W args v W':=by
 have hold:∀ p∈before,(fun b=>decide (b < W.heap.size)) p.block=true:=fun p hp=>by simpa using hW.lt p hp
 refine⟨ds,gs,before,[],pa,pv,hW,hres _ _ _,hargs _ hold,hvars _ hold,World.keptBut_mono (fun p hp=>⟨hp,?_⟩) (hb.frame (·∈before)),fun _=>?_⟩
 ·rw[hps,mem_append] at hp
  exact Or.inr hp
 ·have hW2:=hW
  obtain⟨_,_,_,_,_,hz,hn⟩:=hW;refine⟨hok,_,_,([]++pa)++pv,⟨[]++pa,pv,trodAll_append (hargs _ (fun _ _=>rfl)) (hres _ _ _),hvars _ (fun _ _=>rfl),rfl,?_,?_⟩,?_⟩
  ·intro b off hp
   have hp':MemPlace.cell b off∈before:=by rw[hps];simpa using hp
   rw[hb.frozen (p:=⟨b,off,none⟩) (hW2.lt _ hp')];exact hz b off hp'
  ·intro ha
   have:=hn ha
   rw[hps] at this;simpa using this
  ·intro p hp _
   rw[hps];simpa using hp
theorem law_goal {f:Func} {n:Nat} {s:ChangeSpec} {W:World} {args:Array Value} {ds gs:List (DataW H)} {before:List MemPlace} {apart fresh handsOn again:Bool} {tb:TypeId} {G:Calls'} {avs:List AV}
  (hW:DataW.Whole enc P f.params.toList s.vars apart W args.toList ds gs before) (hv:s.vars=[]) (hl:laidOutB P=true)
  (hpar:(f.params.toList.all fun t=>P.readableRec t && decide (t < P.types.size))=true) (hrt:f.resultTypes=#[tb]) (htb:P.underlying tb=some .bool)
  (hG:Good P G) (hrep:RepL (RepT (cx0 (fun _=>0) (fun _=>0) (fun b _=>b < W.heap.size) W 0) noOwn) avs args.toList)
  (hg:G n avs []=some (.bool true,[])) (hfn:s.fn H ds={ results:=[.lit (.bool true)],args:=ds }) (hreal:Real P n) (hgl:GlobOK (fun b _=>b < W.heap.size) W) :
  Calls P n args W fun e W'=>∃ v,e=.returned v/\s.post enc P f apart fresh handsOn again W args v W':=by
 have hsem:SemCall P n avs [] (.bool true) []:=by
  rcases hG _ _ _ _ _ hg with h | hx
  ·exact h.2
  ·intro kd β bs S0 O0 w vs he hr
   obtain⟨v,w',_,_,_,hrn,_⟩:=hx kd β bs S0 O0 w vs he hr;rw[callFunc_run hreal] at hrn;cases hrn
 have hS:=hsem (fun _=>.stab) (fun _=>0) (fun _=>0) (fun b _=>b < W.heap.size) (fun _=>none) W args (entP (fun b n hb=>hb) hgl) hrep;refine hS.mono ?_
 rintro e W' ⟨v,kd',β',bs',rfl,ha⟩
 have hr:=ha.rep;have hv':v=.bool true:=by simpa [RepT,RepE,RepF] using hr
 subst hv';have hb:Below W.heap.size W W':=⟨ha.os,ha.tape,ha.output,ha.size,fun k hk=>ha.frame k hk (fun i hi=>by simp at hi) rfl⟩
 refine⟨_,rfl,?_⟩;have hW2:=hW;obtain⟨p,q,hA,hV,hpq,_,_⟩:=hW2;rw[hv] at hV;obtain⟨rfl,rfl⟩:=trodVars_none hV;rw[append_nil] at hpq;subst hpq;have e1:(s.fn H (ds++[])).results=[.lit (.bool true)]:=by rw[append_nil,hfn]
 have e2:(s.fn H (ds++[])).args=ds:=by rw[append_nil,hfn]
 have e3:(s.fn H (ds++[])).vars=[]:=by rw[append_nil,hfn]
 have hsz:f.resultTypes.size=1:=by rw[hrt];rfl
 refine post_below (pa:=before) (pv:=[]) hW ?_ ?_ ?_ (by simp) hb ?_
 ·intro b sp hd
  rw[e1,hsz,hrt];exact trodAll_cons_mk (shut_bool htb true) trodAll_mk0
 ·intro sp hsp
  rw[e2];exact trodAll_below hl hb hpar hA (fun p hp=>hW.lt p hp) hsp
 ·intro sp _
  rw[hv,e3];exact rfl
 ·exact ok_one hrt rfl (okWide_bool_mk htb true)
variable {w:World} {base:Nat} {spare:Nat->Bool} {held:Bool}
theorem spot_of_cell {a:Addr} {u:Value} (h:w.cell? a=some u):a.spot=none:=by
 unfold World.cell? at h
 split at h
 ·split at h
  ·cases h
  ·rename_i hs;simpa using hs
 ·cases h
theorem rep_rows {S:Nat->Nat->Prop} {k:IntKind} (b:Nat):∀ (l:List Int) (o:Nat),(∀ i,i < l.length->S b (o+i)/\w.cell? ⟨b,o+i,none⟩=some (.int k (l.getD i 0)))->RepR S w 1 (l.map fun x=>[.int k x]) b o
 | [],o,_=>by simp [RepR]
 | x :: l,o,h=>by
  have h0:=h 0 (by simp);simp only[map_cons,RepR,RepC,length_cons,length_nil,Nat.zero_add,and_true,true_and];refine⟨⟨h0.1,_,h0.2,rfl⟩,?_⟩;exact rep_rows b l (o+1) fun i hi=>by
   have:=h (i+1) (by simp;omega)
   rw[show o+1+i=o+(i+1) by omega];simpa using this
theorem rep_ints {r:Reach} {b0 n:Nat} {t e:TypeId} {k:IntKind} {v:Value} {d:DataW H} {ps:List MemPlace} {ow:Value->Nat->Nat->Prop} (ht:P.underlying t=some (.slice e)) (he:P.underlying e=some (.int k)) (hc:P.cellsOf e=1)
  (hval:Value.okWide P w r b0 t v) (hd:DataW.Trod enc P w base spare held t v d ps) :
  ∃ l:List Int,RepT (cx0 (fun _=>0) (fun _=>0) (fun b _=>b < w.heap.size) w n) ow (.sl .no 1 (l.map fun x=>[.int k x])) v:=by
 obtain⟨a0,len,cap,rfl⟩:=okWide_slice ht hval;obtain⟨fuel,hf⟩:=hd;rcases open_ints ht he hc hf with ⟨hcs,hx⟩ | ⟨a,len',cap',zs,hcs,_,hl,hm,hz,hx,hcell,hwz⟩
 ·simp [Value.cells] at hcs
  obtain⟨rfl,rfl,rfl⟩:=hcs;refine⟨[],?_⟩;simp only[RepT,RepE,RepF];exact⟨none,0,rfl,Nat.le_refl _,by simp,by simp,.inl rfl⟩
 ·simp [Value.cells] at hcs
  obtain⟨rfl,rfl,rfl⟩:=hcs;have hlen:len<=zs.length:=by rw[hz];split<;>omega
  refine⟨zs.take len,?_⟩;simp only[RepT,RepE,RepF];have hl2:((zs.take len).map fun x=>([.int k x]:List AV)).length=len:=by simp;omega
  refine⟨some a,cap,by rw[hl2],by rw[hl2];omega,by simp,by simp,?_⟩;by_cases h0:len=0
  ·left;subst h0;simp
  ·right
   have c0:=hcell 0 (by omega);have hsp:a.spot=none:=spot_of_cell (by simpa [Addr.add] using c0);obtain⟨b,o,sp⟩:=a;simp only at hsp;subst hsp;refine⟨b,o,rfl,rep_rows b _ _ fun i hi=>?_⟩;have hi':i < len:=by simpa [Nat.lt_min] using (show i < (zs.take len).length from hi) |> fun h=>by simp at h;omega
   have ci:=hcell i (by omega);have e1:(⟨b,o,none⟩:Addr).add i=⟨b,o+i,none⟩:=by
    unfold Addr.add;split
    ·rename_i h;subst h;rfl
    ·rfl
   rw[e1] at ci;refine⟨World.block_lt_of_cell? w _ ci,?_⟩;show w.cell? _=_;rw[ci];simp [getD_eq_getElem?_getD,hi']
theorem rep_int {r:Reach} {b0 n:Nat} {t:TypeId} {k:IntKind} {v:Value} {d:DataW H} {ps:List MemPlace} {ow:Value->Nat->Nat->Prop} (ht:P.underlying t=some (.int k))
  (hval:Value.okWide P w r b0 t v) (hd:DataW.Trod enc P w base spare held t v d ps) :
  ∃ x:Int,(Lit.int k x).wf=true/\RepT (cx0 (fun _=>0) (fun _=>0) (fun b _=>b < w.heap.size) w n) ow (.int k x) v:=by
 obtain⟨x,rfl,_,_,hw⟩:=open_int ht hval hd;exact⟨x,hw,by simp [RepT,RepE,RepF]⟩
theorem rep_bool {r:Reach} {b0 n:Nat} {t:TypeId} {v:Value} {d:DataW H} {ps:List MemPlace} {ow:Value->Nat->Nat->Prop} (ht:P.underlying t=some .bool)
  (hval:Value.okWide P w r b0 t v) (hd:DataW.Trod enc P w base spare held t v d ps) :
  ∃ x:Bool,RepT (cx0 (fun _=>0) (fun _=>0) (fun b _=>b < w.heap.size) w n) ow (.bool x) v:=by
 obtain⟨x,rfl,_⟩:=open_bool ht hval hd;exact⟨x,by simp [RepT,RepE,RepF]⟩
end
end Go.Av
