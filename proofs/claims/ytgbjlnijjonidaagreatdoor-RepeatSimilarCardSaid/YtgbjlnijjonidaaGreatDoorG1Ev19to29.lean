/- A part of the frame (Ev19 Ev20 Ev21 Ev22 Ev27 Ev28 Ev29). No conditions. -/
import Derived.Test.YtgbjlnijjonidaaGreatDoorG1Ev14to18
import Derived.Attr
import Derived.IntWalk
import Derived.WalkKit
import Derived.ProofKit
import Derived.OpenShut
import Derived.Below
import Derived.Carry
import Derived.Lib.SmallJoins
import Derived.Lib.Bytealg
open List
set_option linter.unusedSimpArgs false
set_option linter.unusedVariables false
set_option linter.unusedSectionVars false
set_option maxRecDepth 100000
set_option maxHeartbeats 16000000
namespace Go.Av
section
variable {G:aL} {l:List (Nat × AV)} {m:List (Nat × Option (List AV))} {sh:LL}
@[go_sem] theorem PL {α:Type} (d:α) (t:Nat):aF d [] t=d:=(rfl)
@[go_sem] theorem NF {α:Type} (d:α) (k:Nat) (v:α) (r:List (Nat × α)) (t:Nat):aF d ((k,v) :: r) t=if t=k then v else aF d r t:=(rfl)
@[go_sem] theorem OJ {α:Type} (k:Nat) (v:α):dE [] k v=[(k,v)]:=(rfl)
@[go_sem] theorem MK {α:Type} (k k':Nat) (v v':α) (r:List (Nat × α)):dE ((k',v') :: r) k v=if k=k' then (k,v) :: r else if k < k' then (k,v) :: (k',v') :: r else (k',v') :: dE r k v:=(rfl)
@[go_sem] theorem NI (kill:List Nat):fR kill []=[]:=(rfl)
@[go_sem] theorem K7 (kill:List Nat) (k:Nat) (v:AV) (r:List (Nat × AV)):fR kill ((k,v) :: r)=if k∈kill then fR kill r else (k,aS kill v) :: fR kill r:=(rfl)
@[go_sem] theorem NQ {α:Type} (kill:List Nat):eW kill ([]:List (Nat × α))=[]:=(rfl)
@[go_sem] theorem LQ {α:Type} (kill:List Nat) (k:Nat) (v:α) (r:List (Nat × α)):eW kill ((k,v) :: r)=if k∈kill then eW kill r else (k,v) :: eW kill r:=(rfl)
@[go_sem] theorem OM (kill:List Nat):sI kill []=[]:=(rfl)
@[go_sem] theorem MS (kill:List Nat) (k:Nat) (v:AV) (r:List (Nat × AV)):sI kill ((k,v) :: r)=(k,aS kill v) :: sI kill r:=(rfl)
@[go_sem] theorem RH (k:Nat):qP k []=[]:=(rfl)
@[go_sem] theorem NY (k:Nat) (a:AV) (as:List AV):qP k (a :: as)=(k,a) :: qP (k+1) as:=(rfl)
attribute [go_sem] reduceCtorEq Nat.not_lt_zero Nat.lt_one_iff mem_cons not_mem_nil or_false or_true or_self false_or true_or if_true if_false
@[go_sem] theorem QR (k:IntKind) (n:Int):aH (.int k n)=.int k n:=(rfl)
@[go_sem] theorem NR (b:Bool):aH (.bool b)=.bool b:=(rfl)
@[go_sem] theorem QP (s:List UInt8):aH (.str s)=.str s:=(rfl)
@[go_sem] theorem QQ (o i:Nat):aH (.ptr o i)=.ptr o i:=(rfl)
@[go_sem] theorem QO (x:List AV):aH (.tup x)=.tup x:=(rfl)
@[go_sem] theorem S2 (o i n z:Nat):aH (.ss o i n z)=.ss o i n z:=(rfl)
@[go_sem] theorem S3 (o:Nat):aH (.mp o)=.mp o:=(rfl)
@[go_sem] theorem S4 (f:FuncId) (x:List AV):aH (.fn f x)=.fn f x:=(rfl)
@[go_sem] theorem OC (k:IntKind) (n:Int):dO (.int k n)=.int k n:=(rfl)
@[go_sem] theorem MJ (b:Bool):dO (.bool b)=.bool b:=(rfl)
@[go_sem] theorem OB (s:List UInt8):dO (.str s)=.str s:=(rfl)
@[go_sem] theorem OD (x:List AV):dO (.agg x)=.agg x:=(rfl)
@[go_sem] theorem RU (o i n z:Nat):dO (.ss o i n z)=.ss o i n z:=(rfl)
@[go_sem] theorem RV (f:FuncId) (x:List AV):dO (.fn f x)=.fn f x:=(rfl)
@[go_sem] theorem sE (o:Own) (z:Nat) (x:LL):dO (.sl o z x)=.sl .no z x:=(rfl)
@[go_sem] theorem HR (n:Nat) (x:List AV):bB n (.agg x)=if x.length=n then some x else none:=(rfl)
@[go_sem] theorem HQ (k:IntKind) (i:Int):bB 1 (.int k i)=some [.int k i]:=(rfl)
@[go_sem] theorem HN (s:List UInt8):bB 1 (.str s)=some [.str s]:=(rfl)
@[go_sem] theorem HP (z:Nat) (x:LL):bB 1 (.sl .no z x)=some [.sl .no z x]:=(rfl)
@[go_sem] theorem HO (z:Nat) (x:LL):bB 1 (.sl .own z x)=some [.sl .no z x]:=(rfl)
@[go_sem] theorem HU (n:Nat) (x:List AV):dC n (.agg x)=if x.length=n then some x else none:=(rfl)
@[go_sem] theorem HT (k:IntKind) (i:Int):dC 1 (.int k i)=some [.int k i]:=(rfl)
@[go_sem] theorem I8 (a b c d:Nat):dC 1 (.ss a b c d)=some [.ss a b c d]:=(rfl)
@[go_sem] theorem KA (a:List Nat) (k:IntKind) (n:Int):aS a (.int k n)=.int k n:=(rfl)
@[go_sem] theorem IH (a:List Nat) (b:Bool):aS a (.bool b)=.bool b:=(rfl)
@[go_sem] theorem J7 (a:List Nat) (s:List UInt8):aS a (.str s)=.str s:=(rfl)
@[go_sem] theorem J8 (a:List Nat) (o i:Nat):aS a (.ptr o i)=.ptr o i:=(rfl)
@[go_sem] theorem J9 (a:List Nat) (o i:Nat):aS a (.loc o i)=if o∈a then .any else .loc o i:=(rfl)
@[go_sem] theorem KB (a:List Nat) (x:List AV):aS a (.agg x)=.agg x:=(rfl)
@[go_sem] theorem MO (a:List Nat) (o i n z:Nat):aS a (.ss o i n z)=.ss o i n z:=(rfl)
@[go_sem] theorem MQ (a:List Nat) (o:Nat):aS a (.mp o)=.mp o:=(rfl)
@[go_sem] theorem MR (a:List Nat) (f:FuncId) (x:List AV):aS a (.fn f x)=.fn f x:=(rfl)
@[go_sem] theorem MP (a:List Nat) (o:Own) (z:Nat) (x:LL):aS a (.sl o z x)=.sl o z x:=(rfl)
noncomputable def tT (G:aL) (r:Option (AX × AS)) (b:ACode):Option (AX × AS):=match r with
 | some (.norm,σ')=>aC G b σ'
 | r=>r
def jF (id:Nat) (r:Option (AX × AS)):Option (AX × AS):=match r with
 | some (.ex i,σ')=>if i=id then some (.norm,σ') else some (.ex i,σ')
 | r=>r
def vW (kill:List Nat) (r:Option AS):Option (AX × AS):=r.map fun σ'=>(.norm,forget kill σ')
def zU (G:aL) (r:Option AS) (os:List AOper):Option AS:=r.bind (cD G os)
noncomputable def I7 (G:aL) (v:AV) (a b:ACode) (σ:AS):Option (AX × AS):=match v with
 | .bool t=>if t then aC G a σ else aC G b σ
 | _=>none
@[go_sem] theorem V3 (σ:AS):aC G .skip σ=some (.norm,σ):=(rfl)
@[go_sem] theorem WN (σ:AS):aC G .ret σ=some (.ret,σ):=(rfl)
@[go_sem] theorem V6 (id:Nat) (σ:AS):aC G (.exit id) σ=some (.ex id,σ):=(rfl)
@[go_sem] theorem WM (a b:ACode) (σ:AS):aC G (.seq a b) σ=tT G (aC G a σ) b:=(rfl)
@[go_sem] theorem TR (id:Nat) (a:ACode) (σ:AS):aC G (.block id a) σ=jF id (aC G a σ):=(rfl)
@[go_sem] theorem V5 (d:Bool) (ops:List AOper) (kill:List Nat) (σ:AS):aC G (.reg d [] ops kill) σ=vW kill (cD G ops σ):=by
 show (cD G ops (scrub [] σ)).map _=_;rw[zS];rfl
@[go_sem] theorem V4 (d:Bool) (a:Nat) (al:List Nat) (ops:List AOper) (kill:List Nat):aC G (.reg d (a :: al) ops kill) (ST l m sh)=vW kill (cD G ops (ST (sI (a :: al) l) (eW (a :: al) m) sh)):=by
 show (cD G ops (scrub (a :: al) _)).map _=_;rw[BV];rfl
@[go_sem] theorem V7 (c:AR) (a b:ACode):aC G (.cond c a b) (ST l m sh)=I7 G (ev (aF .any l) c) a b (ST l m sh):=(rfl)
@[go_sem] theorem LZ (t:Bool) (a b:ACode) (σ:AS):I7 G (.bool t) a b σ=if t then aC G a σ else aC G b σ:=(rfl)
@[go_sem] theorem MM (σ:AS) (b:ACode):tT G (some (.norm,σ)) b=aC G b σ:=(rfl)
@[go_sem] theorem RZ (i:Nat) (σ:AS) (b:ACode):tT G (some (.ex i,σ)) b=some (.ex i,σ):=(rfl)
@[go_sem] theorem OK (σ:AS) (b:ACode):tT G (some (.ret,σ)) b=some (.ret,σ):=(rfl)
@[go_sem] theorem MN (b:ACode):tT G none b=none:=(rfl)
@[go_sem] theorem OL (c:Prop) [Decidable c] (x y:Option (AX × AS)) (b:ACode):tT G (if c then x else y) b=if c then tT G x b else tT G y b:=by split<;>rfl
@[go_sem] theorem JE (id:Nat) (σ:AS):jF id (some (.norm,σ))=some (.norm,σ):=(rfl)
@[go_sem] theorem MB (id:Nat) (σ:AS):jF id (some (.ret,σ))=some (.ret,σ):=(rfl)
@[go_sem] theorem NX (id i:Nat) (σ:AS):jF id (some (.ex i,σ))=if i=id then some (.norm,σ) else some (.ex i,σ):=(rfl)
@[go_sem] theorem JF (id:Nat):jF id none=none:=(rfl)
@[go_sem] theorem MC (id:Nat) (c:Prop) [Decidable c] (x y:Option (AX × AS)):jF id (if c then x else y)=if c then jF id x else jF id y:=by split<;>rfl
@[go_sem] theorem M7 (kill:List Nat):vW kill (some (ST l m sh))=some (.norm,ST (fR kill l) (eW kill m) sh):=by
 show some (AX.norm,forget kill (ST l m sh))=_;rw[mX]
@[go_sem] theorem M8 (kill:List Nat):vW kill none=none:=(rfl)
@[go_sem] theorem OX (kill:List Nat) (c:Prop) [Decidable c] (x y:Option AS):vW kill (if c then x else y)=if c then vW kill x else vW kill y:=by split<;>rfl
@[go_sem] theorem OP (σ:AS):cD G [] σ=some σ:=(rfl)
@[go_sem] theorem MW (o:AOper) (os:List AOper) (σ:AS):cD G (o :: os) σ=zU G (bO G o σ) os:=(rfl)
@[go_sem] theorem MT (σ:AS) (os:List AOper):zU G (some σ) os=cD G os σ:=(rfl)
@[go_sem] theorem MU (os:List AOper):zU G none os=none:=(rfl)
@[go_sem] theorem OO (c:Prop) [Decidable c] (x y:Option AS) (os:List AOper):zU G (if c then x else y) os=if c then zU G x os else zU G y os:=by split<;>rfl
noncomputable def PK (G:aL) (kill:List Nat) (a:ACode) (r:Option (AX × AS)):Option (AX × AS):=match r with
 | some (.norm,σ')=>aC G (.loop kill a) σ'
 | r=>r
theorem MF (kill:List Nat) (a:ACode):aC G (.loop kill a) (ST l m sh)=PK G kill a (aC G a (ST (fR kill l) (eW kill m) sh)):=by
 rw[<- mX];show pO _ _=_;rw[@pN A7];rfl
def opX (G:aL) (dst:Option Nat) (k:AK) (args:List AR) (ml:ML) (dem:Option Nat) (σ:AS):Option AS:=
 match kf G (dst.getD 0) ml k (args.map (ev σ.fr)) (rdm σ ml) with
 | some (v,m)=>some (put (cI (wrm σ m ml) dem) dst v)
 | none=>none
def sY (G:aL) (g:AV) (want:Bool) (dst:Option Nat) (k:AK) (args:List AR) (ml:ML) (dem:Option Nat) (σ:AS):Option AS:=
 match g with
 | .bool b=>if b=want then opX G dst k args ml dem σ else some (put σ dst .undef)
 | .undef=>some (put σ dst .undef)
 | _=>none
@[go_sem] theorem JZ (dst:Option Nat) (k:AK) (args:List AR) (ml:ML) (dem:Option Nat) (σ:AS):bO G ⟨dst,k,args,ml,dem,none⟩ σ=opX G dst k args ml dem σ:=(rfl)
@[go_sem] theorem J0 (dst:Option Nat) (k:AK) (args:List AR) (ml:ML) (dem:Option Nat) (s:Nat) (b:Bool):bO G ⟨dst,k,args,ml,dem,some (s,b)⟩ (ST l m sh)=sY G (aF .any l s) b dst k args ml dem (ST l m sh):=by
 unfold bO sY;simp only[dA,JK]
 cases aF AV.any l s with
 | bool c=>cases c<;>cases b<;>rfl
 | _=>rfl
@[go_sem] theorem I5 (c want:Bool) (dst:Option Nat) (k:AK) (args:List AR) (ml:ML) (dem:Option Nat) (σ:AS):sY G (.bool c) want dst k args ml dem σ=if c=want then opX G dst k args ml dem σ else some (put σ dst .undef):=(rfl)
@[go_sem] theorem G1 (want:Bool) (dst:Option Nat) (k:AK) (args:List AR) (ml:ML) (dem:Option Nat) (σ:AS):sY G .undef want dst k args ml dem σ=some (put σ dst .undef):=(rfl)
attribute [go_sem] eJ B6
@[go_sem] theorem WZ (f:Nat->AV) (s:Nat):ev f (.t s)=f s:=(rfl)
@[go_sem] theorem W0 (f:Nat->AV) (a:AV):ev f (.c a)=a:=(rfl)
@[go_sem] theorem WB (d:Nat) (x:AR):opX G (some d) .mv [x] .none none (ST l m sh)=some (ST (dE l d (aH (ev (aF .any l) x))) m sh):=by
 show some (put (ST l m sh) (some d) _)=_;rw[eJ];rfl
@[go_sem] theorem T6 (d s:Nat):opX G (some d) .mvo [.t s] .none (some s) (ST l m sh)=some (ST (dE (dE l s (aH (aF .any l s))) d (aF .any l s)) m sh):=by
 show some (put (cI (ST l m sh) (some s)) (some d) _)=_;rw[yN,eJ];rfl
def dP (d:Nat) (l:List (Nat × AV)) (m:List (Nat × Option (List AV))) (sh:LL) (v:Option AV):Option AS:=v.map fun v=>ST (dE l d v) m sh
@[go_sem] theorem M3 (d:Nat) (v:AV):dP d l m sh (some v)=some (ST (dE l d v) m sh):=(rfl)
@[go_sem] theorem M4 (d:Nat):dP d l m sh none=none:=(rfl)
@[go_sem] theorem OV (d:Nat) (c:Prop) [Decidable c] (x y:Option AV):dP d l m sh (if c then x else y)=if c then dP d l m sh x else dP d l m sh y:=by split<;>rfl
theorem cB {d:Nat} {k:AK} {args:List AR} {r:Option AV} (h:kf G d .none k (args.map (ev (aF .any l))) (none,[])=r.map fun v=>(v,(none,[]))):opX G (some d) k args .none none (ST l m sh)=dP d l m sh r:=by
 unfold opX;have h':kf G ((some d).getD 0) .none k (args.map (ev (ST l m sh).fr)) (rdm (ST l m sh) .none)=r.map fun v=>(v,(none,[])):=h
 rw[h']
 cases r with
 | none=>rfl
 | some v =>
  show some (put (ST l m sh) (some d) v)=_;rw[eJ];rfl
def IM:AV->AV->AV->Option AV
 | .bool c,a,b=>some (aH (if c then a else b))
 | _,_,_=>none
@[go_sem] theorem KH (c:Bool) (a b:AV):IM (.bool c) a b=some (if c then aH a else aH b):=by cases c<;>rfl
@[go_sem] theorem R7 (d:Nat) (c x y:AR):opX G (some d) .pick [c,x,y] .none none (ST l m sh)=dP d l m sh (IM (ev (aF .any l) c) (ev (aF .any l) x) (ev (aF .any l) y)):=by
 apply cB;simp only[map_cons,map_nil,kf]
 cases ev (aF AV.any l) c<;>rfl
@[go_sem] theorem UJ (d:Nat) (op:BinOp) (x y:AR):opX G (some d) (.bin op) [x,y] .none none (ST l m sh)=dP d l m sh (dS op (ev (aF .any l) x) (ev (aF .any l) y)):=by
 apply cB;simp only[map_cons,map_nil,kf,kf0]
def XF (ne:Bool):AV->AV->Option AV
 | .bool x,.bool y=>some (.bool (if ne then x != y else x == y))
 | _,_=>none
def unA:UnOp->AV->Option AV
 | .neg,.int k n=>some (.int k (k.wrap (0 - n)))
 | .not,.bool b=>some (.bool !b)
 | _,_=>none
def J6 (ne:Bool) (ks:List Nat):AV->AV->Option AV
 | .agg x,.agg y=>(eqL ks x y).map fun b=>.bool (if ne then !b else b)
 | _,_=>none
@[go_sem] theorem R0 (ks:List Nat) (x y:List AV):J6 true ks (.agg x) (.agg y)=(eqL ks x y).map fun b=>.bool !b:=(rfl)
@[go_sem] theorem SV:eqL [] [] []=some true:=(rfl)
@[go_sem] theorem SW (ks:List Nat) (k:IntKind) (a b:Int) (x y:List AV):eqL (0 :: ks) (.int k a :: x) (.int k b :: y)=(eqL ks x y).map fun r=>decide (a=b) && r:=by
 simp only[eqL,if_true];rfl
@[go_sem] theorem T4 (d:Nat) (ne:Bool) (ks:List Nat) (x y:AR):opX G (some d) (.seq ne ks) [x,y] .none none (ST l m sh)=dP d l m sh (J6 ne ks (ev (aF .any l) x) (ev (aF .any l) y)):=by
 apply cB;simp only[map_cons,map_nil,kf];cases hx:ev (aF AV.any l) x<;>cases hy:ev (aF AV.any l) y<;>try rfl
 simp only[kf0,J6,Option.map_map];rfl
@[go_sem] theorem RT (k:IntKind) (n:Int):unA .neg (.int k n)=some (.int k (k.wrap (0 - n))):=(rfl)
@[go_sem] theorem RS (b:Bool):unA .not (.bool b)=some (.bool !b):=(rfl)
@[go_sem] theorem V9 (d:Nat) (op:UnOp) (x:AR):opX G (some d) (.un op) [x] .none none (ST l m sh)=dP d l m sh (unA op (ev (aF .any l) x)):=by
 apply cB;simp only[map_cons,map_nil,kf]
 cases op<;>cases ev (aF AV.any l) x<;>rfl
def WU:AV->Option AV
 | .sl _ _ x=>some (.int .i64 (x.length:Int))
 | .str s=>some (.int .i64 (s.length:Int))
 | _=>none
def pL (str:Bool) (v:AV):Option AV:=match str,v with
 | false,.sl _ _ x=>some (.int .i64 (x.length:Int))
 | false,.ss _ _ n _=>some (.int .i64 (n:Int))
 | true,.str s=>some (.int .i64 (s.length:Int))
 | _,_=>none
@[go_sem] theorem PP (o i n z:Nat):pL false (.ss o i n z)=some (.int .i64 (n:Int)):=(rfl)
@[go_sem] theorem PQ (o:Own) (z:Nat) (x:LL):pL false (.sl o z x)=some (.int .i64 (x.length:Int)):=(rfl)
@[go_sem] theorem NG (s:List UInt8):pL true (.str s)=some (.int .i64 (s.length:Int)):=(rfl)
@[go_sem] theorem UC (d:Nat) (b:Bool) (x:AR):opX G (some d) (.len b) [x] .none none (ST l m sh)=dP d l m sh (pL b (ev (aF .any l) x)):=by
 apply cB;simp only[map_cons,map_nil,kf]
 cases b<;>cases ev (aF AV.any l) x<;>rfl
def mmA (b:Bool):AV->AV->Option AV
 | .int k x,.int k' y=>if k=k' then some (.int k (if b then (if x < y then y else x) else (if y < x then y else x))) else none
 | _,_=>none
@[go_sem] theorem SG (k:IntKind) (x y:Int):mmA true (.int k x) (.int k y)=some (.int k (max x y)):=by
 simp only[mmA,if_true,Option.some.injEq,AV.int.injEq,true_and];split<;>omega
@[go_sem] theorem SF (k:IntKind) (x y:Int):mmA false (.int k x) (.int k y)=some (.int k (min x y)):=by
 simp only[mmA,if_true,Bool.false_eq_true,if_false,Option.some.injEq,AV.int.injEq,true_and];split<;>omega
@[go_sem] theorem WC (d:Nat) (b:Bool) (x y:AR):opX G (some d) (.mm b) [x,y] .none none (ST l m sh)=dP d l m sh (mmA b (ev (aF .any l) x) (ev (aF .any l) y)):=by
 apply cB;simp only[map_cons,map_nil,kf];cases hx:ev (aF AV.any l) x<;>cases hy:ev (aF AV.any l) y<;>try rfl
 rename_i k n k' n';simp only[kf0,mmA]
 split<;>rfl
def IS:AV->Option AV
 | .ptr a b=>some (.ptr a b)
 | .loc a b=>some (.loc a b)
 | .ip x=>some (.ip x)
 | _=>none
@[go_sem] theorem NC (a b:Nat):IS (.ptr a b)=some (.ptr a b):=(rfl)
@[go_sem] theorem R8 (d:Nat) (x:AR):opX G (some d) .nilc [x] .none none (ST l m sh)=dP d l m sh (IS (ev (aF .any l) x)):=by
 apply cB;simp only[map_cons,map_nil,kf]
 cases ev (aF AV.any l) x<;>rfl
def faA (off:Nat):AV->Option AV
 | .loc s o=>some (.loc s (o+off))
 | .ptr i o=>some (.ptr i (o+off))
 | .ip x=>some (.ip (x.drop off))
 | _=>none
@[go_sem] theorem SU (off s o:Nat):faA off (.loc s o)=some (.loc s (o+off)):=(rfl)
@[go_sem] theorem SR (off s o:Nat):faA off (.ptr s o)=some (.ptr s (o+off)):=(rfl)
@[go_sem] theorem UY (off:Nat) (x:List AV):faA off (.ip x)=some (.ip (x.drop off)):=(rfl)
@[go_sem] theorem WF (d off:Nat) (x:AR):opX G (some d) (.fa off) [x] .none none (ST l m sh)=dP d l m sh (faA off (ev (aF .any l) x)):=by
 apply cB;simp only[map_cons,map_nil,kf]
 cases ev (aF AV.any l) x<;>rfl
def WY (agg:Bool) (off n:Nat):AV->Option AV
 | .agg x=>eA agg off n x
 | _=>none
def iaK (z:Nat):AV->AV->Option AV
 | .sl _ z' x,.int _ i=>if z'=z/\0<=i then (x[i.toNat]?).map .ip else none
 | .ss o off n z',.int _ i=>if z'=z/\0<=i/\i < n then some (.ptr o (off+i.toNat*z)) else none
 | _,_=>none
@[go_sem] theorem sW (z o off n:Nat) (k:IntKind) (i:Int):iaK z (.ss o off n z) (.int k i)=if 0<=i/\i < n then some (.ptr o (off+i.toNat*z)) else none:=by simp [iaK]
@[go_sem] theorem C6 (z:Nat) (o:Own) (x:LL) (k:IntKind) (i:Int):iaK z (.sl o z x) (.int k i)=if 0<=i then (x[i.toNat]?).map .ip else none:=by simp [iaK]
@[go_sem] theorem WE (d z:Nat) (x y:AR):opX G (some d) (.ia z) [x,y] .none none (ST l m sh)=dP d l m sh (iaK z (ev (aF .any l) x) (ev (aF .any l) y)):=by
 apply cB;simp only[map_cons,map_nil,kf];cases hx:ev (aF AV.any l) x<;>cases hy:ev (aF AV.any l) y<;>try rfl
 all_goals
  simp only[kf0,iaK];split
  ·first | rfl | (simp only[Option.map_map];rfl)
  ·rfl
def LB (z len:Nat):AV->AV->Option AV
 | a,.int _ i=>if 0<=i/\i < len then
   (match a with
   | .loc s o=>some (.loc s (o+i.toNat*z))
   | .ptr p o=>some (.ptr p (o+i.toNat*z))
   | .ip x=>some (.ip (x.drop (i.toNat*z)))
   | _=>none) else none
 | _,_=>none
@[go_sem] theorem SO (z len:Nat) (x:List AV) (k:IntKind) (i:Int):LB z len (.ip x) (.int k i)=if 0<=i/\i < len then some (.ip (x.drop (i.toNat*z))) else none:=(rfl)
@[go_sem] theorem UF (d z len:Nat) (x y:AR):opX G (some d) (.iaA z len) [x,y] .none none (ST l m sh)=dP d l m sh (LB z len (ev (aF .any l) x) (ev (aF .any l) y)):=by
 apply cB;simp only[map_cons,map_nil,kf];cases hx:ev (aF AV.any l) x<;>cases hy:ev (aF AV.any l) y<;>try rfl
 all_goals
  simp only[kf0,LB]
  split<;>rfl
def K9:AV->AV->Option AV
 | .str s,.int _ i=>if 0<=i then (s[i.toNat]?).map fun b=>.int .u8 (b.toNat:Int) else none
 | _,_=>none
@[go_sem] theorem P5 (s:List UInt8) (k:IntKind) (i:Int):K9 (.str s) (.int k i)=if 0<=i then (s[i.toNat]?).map fun b=>.int .u8 (b.toNat:Int) else none:=(rfl)
@[go_sem] theorem UD (d:Nat) (x y:AR):opX G (some d) .ixs [x,y] .none none (ST l m sh)=dP d l m sh (K9 (ev (aF .any l) x) (ev (aF .any l) y)):=by
 apply cB;simp only[map_cons,map_nil,kf];cases hx:ev (aF AV.any l) x<;>cases hy:ev (aF AV.any l) y<;>try rfl
 simp only[kf0,K9];split
 ·simp only[Option.map_map];rfl
 ·rfl
@[go_sem] theorem R6 (d:Nat) (str:Bool) (z:Nat) (x y:AR):opX G (some d) (.slc str z true false) [x,y] .none none (ST l m sh)=dP d l m sh (b8 str z (ev (aF .any l) x) (some (ev (aF .any l) y)) none):=by
 apply cB;simp only[map_cons,map_nil,kf,kf0]
@[go_sem] theorem R5 (d:Nat) (str:Bool) (z:Nat) (x y:AR):opX G (some d) (.slc str z false true) [x,y] .none none (ST l m sh)=dP d l m sh (b8 str z (ev (aF .any l) x) none (some (ev (aF .any l) y))):=by
 apply cB;simp only[map_cons,map_nil,kf,kf0]
@[go_sem] theorem R4 (d:Nat) (str:Bool) (z:Nat) (x y w:AR):opX G (some d) (.slc str z true true) [x,y,w] .none none (ST l m sh)=dP d l m sh (b8 str z (ev (aF .any l) x) (some (ev (aF .any l) y)) (some (ev (aF .any l) w))):=by
 apply cB;simp only[map_cons,map_nil,kf,kf0]
@[go_sem] theorem PA (d:Nat) (zero:List AV) (pl:List (Nat × Nat)) (args:List AR):opX G (some d) (.build zero pl) args .none none (ST l m sh)=dP d l m sh ((dJ zero pl (args.map (ev (aF .any l)))).map .agg):=by
 apply cB;simp only[kf,kf0,Option.map_map];rfl
def fY (z:Nat) (zero:List AV) (len:Nat) (pl:List Nat) (xs:List AV):Option AV:=
 (dJ (aV zero len) (pl.map fun i=>(i*z,z)) xs).map fun cs=>.sl .full z (cH z len cs)
@[go_sem] theorem T8 (d z:Nat) (zero:List AV) (len:Nat) (pl:List Nat) (args:List AR):opX G (some d) (.mks z zero len pl) args .none none (ST l m sh)=dP d l m sh (fY z zero len pl (args.map (ev (aF .any l)))):=by
 apply cB;simp only[kf,kf0,fY,Option.map_map];rfl
def nS (str:Bool) (z bytes:Nat):AV->AV->Option AV
 | .sl md z' x,y=>(iX str z y).bind fun l2=>if (z'=z\/(x=[]/\md=.full))/\md≠.no/\0 < z/\(x.length+l2.length)*bytes<=140737488355328/\x.length+l2.length<=4611686018427387904 then some (.sl .own z (x++l2)) else none
 | _,_=>none
theorem DW (d:Nat) (str:Bool) (z bytes:Nat) (u v:AV):kf G d .none (.app str z bytes) [u,v] (none,[])=(nS str z bytes u v).map fun v=>(v,(none,[])):=by
 simp only[kf]
 cases u<;>try rfl
 simp only[kf0,nS]
 cases iX str z v with
 | none=>rfl
 | some l2 =>
  simp only[Option.bind_some]
  split<;>rfl
@[go_sem] theorem UL (d s:Nat) (str:Bool) (z bytes:Nat) (y:AR):opX G (some d) (.app str z bytes) [.t s,y] .none (some s) (ST l m sh)=dP d (dE l s (aH (aF .any l s))) m sh (nS str z bytes (aF .any l s) (ev (aF .any l) y)):=by
 unfold opX;have h':kf G ((some d).getD 0) .none (.app str z bytes) ([AR.t s,y].map (ev (ST l m sh).fr)) (rdm (ST l m sh) .none)=(nS str z bytes (aF .any l s) (ev (aF .any l) y)).map fun v=>(v,(none,[])):=DW d str z bytes _ _
 rw[h']
 cases nS str z bytes (aF .any l s) (ev (aF .any l) y) with
 | none=>rfl
 | some v =>
  show some (put (cI (ST l m sh) (some s)) (some d) v)=_;rw[yN,eJ];rfl
@[go_sem] theorem SB (d:Nat) (str:Bool) (z bytes:Nat) (a:AV) (y:AR):opX G (some d) (.app str z bytes) [.c a,y] .none none (ST l m sh)=dP d l m sh (nS str z bytes a (ev (aF .any l) y)):=
 cB (DW d str z bytes _ _)
def QF (i:Nat):AV->Option AV
 | .tup x=>x[i]?
 | _=>none
@[go_sem] theorem QE (i:Nat) (x:List AV):QF i (.tup x)=x[i]?:=(rfl)
@[go_sem] theorem UG (d i:Nat) (x:AR):opX G (some d) (.ext i) [x] .none none (ST l m sh)=dP d l m sh (QF i (ev (aF .any l) x)):=by
 apply cB;simp only[map_cons,map_nil,kf]
 cases ev (aF AV.any l) x<;>rfl
def WT (f:FuncId) (caps:List AV):Option AV:=if caps.all (u4 true) then some (.fn f caps) else none
@[go_sem] theorem IG (off:Nat) (x:List AV):eA false off 1 x=x[off]?:=by
 unfold eA;simp only[Bool.false_eq_true,if_false];cases h:x.drop off with
 | nil =>
  have:x[off]?=none:=by
   rw[getElem?_eq_none]
   have:=congrArg List.length h
   simp at this;omega
  rw[this];rfl
 | cons a r =>
  have:x[off]?=some a:=by
   have h2:(x.drop off)[0]?=some a:=by rw[h];rfl
   rw[getElem?_drop] at h2;simpa using h2
  rw[this];rfl
@[go_sem] theorem JU (off n:Nat) (x:List AV):eA true off n x=if ((x.drop off).take n).length=n then some (.agg ((x.drop off).take n)) else none:=(rfl)
attribute [go_sem] getElem?_cons_zero getElem?_cons_succ drop_zero drop_succ_cons take_succ_cons take_zero
@[go_sem] theorem PB (d:Nat) (zero:List AV):opX G (some d) (.alloc zero) [] (.lo d) none (ST l m sh)=if (aF none m d).isNone then some (ST (dE l d (.loc d 0)) (dE m d (some zero)) sh) else none:=by
 unfold opX;simp only[map_nil,kf,kf0,vX,Option.getD_some,true_and];by_cases h:(aF none m d).isNone=true
 ·rw[if_pos h,if_pos h]
  show some (put (cI (wrm (ST l m sh) _ _) none) (some d) _)=_;rw[vJ,gU,eJ]
 ·rw[if_neg h,if_neg h]
@[go_sem] theorem NA (d:Nat) (zero:List AV):opX G (some d) (.allocS zero) [] .sh none (ST l m sh)=some (ST (dE l d (.ptr sh.length 0)) m (sh++[zero])):=by
 unfold opX;simp only[map_nil,kf,kf0,gI,if_true];rw[AU,gU,eJ]
def L9 (d:Nat) (l:List (Nat × AV)) (m:List (Nat × Option (List AV))) (sh:LL):Option (List AV)->Option AS
 | some cs=>if (aF none m d).isNone then some (ST (dE l d (.loc d 0)) (dE m d (some cs)) sh) else none
 | none=>none
@[go_sem] theorem NW (d:Nat) (cs:List AV):L9 d l m sh (some cs)=if (aF none m d).isNone then some (ST (dE l d (.loc d 0)) (dE m d (some cs)) sh) else none:=(rfl)
@[go_sem] theorem UI (d n:Nat) (x:AR):opX G (some d) (.box n) [x] (.lo d) none (ST l m sh)=L9 d l m sh (bB n (ev (aF .any l) x)):=by
 unfold opX;simp only[map_cons,map_nil,kf,kf0,vX,Option.getD_some,true_and,iH]
 cases bB n (ev (aF AV.any l) x) with
 | none=>simp only[Option.map_none,ite_self];rfl
 | some cs =>
  simp only[Option.map_some,L9];by_cases h:(aF none m d).isNone=true
  ·rw[if_pos h,if_pos h]
   show some (put (cI (wrm (ST l m sh) _ _) none) (some d) _)=_;rw[vJ,gU,eJ]
  ·rw[if_neg h,if_neg h]
def JD (d:Nat) (l:List (Nat × AV)) (m:List (Nat × Option (List AV))) (sh:LL):Option (List AV)->Option AS
 | some cs=>some (ST (dE l d (.ptr sh.length 0)) m (sh++[cs]))
 | none=>none
@[go_sem] theorem MA (d:Nat) (cs:List AV):JD d l m sh (some cs)=some (ST (dE l d (.ptr sh.length 0)) m (sh++[cs])):=(rfl)
@[go_sem] theorem R9 (d n:Nat) (x:AR):opX G (some d) (.boxS n) [x] .sh none (ST l m sh)=JD d l m sh (bB n (ev (aF .any l) x)):=by
 unfold opX;simp only[map_cons,map_nil,kf,kf0,gI,if_true,iH]
 cases bB n (ev (aF AV.any l) x) with
 | none=>rfl
 | some cs =>
  show some (put (cI (wrm (ST l m sh) _ _) none) (some d) _)=_;rw[AU,gU,eJ];rfl
def lT:List AV->Option (List AV)
 | []=>some []
 | x :: xs=>if a8 (aH x)=true then (lT xs).map (aH x :: ·) else none
theorem uX:∀ (x:List AV),lT x=if x.all (fun y=>a8 (aH y))=true then some (x.map aH) else none
 | []=>rfl
 | x :: xs=>by
  simp only[lT,uX xs,all_cons,map_cons];by_cases h:a8 (aH x)=true
  ·rw[if_pos h]
   simp only[h,Bool.true_and]
   split<;>rfl
  ·rw[if_neg h]
   have:a8 (aH x)=false:=by simpa using h
   simp [this]
@[go_sem] theorem SM (k:IntKind) (n:Int):ldV (.int k n)=some (.int k n):=(rfl)
@[go_sem] theorem SL (s:List UInt8):ldV (.str s)=some (.str s):=(rfl)
@[go_sem] theorem UO (z:Nat) (x:LL):ldV (.sl .no z x)=some (.sl .no z x):=(rfl)
@[go_sem] theorem NM:lT []=some []:=(rfl)
@[go_sem] theorem NN (k:IntKind) (n:Int) (xs:List AV):lT (.int k n :: xs)=(lT xs).map (.int k n :: ·):=(rfl)
@[go_sem] theorem NL (s:List UInt8) (xs:List AV):lT (.str s :: xs)=(lT xs).map (.str s :: ·):=(rfl)
@[go_sem] theorem NH (off n:Nat) (x:List AV):ldC false off n x=(x[off]?).bind ldV:=by
 unfold ldC;simp only[Bool.false_eq_true,if_false];cases x[off]?<;>rfl
@[go_sem] theorem PR (off n:Nat) (x:List AV):ldC true off n x=if ((x.drop off).take n).length=n then (lT ((x.drop off).take n)).map .agg else none:=by
 unfold ldC;rw[if_pos rfl,uX];by_cases h1:((x.drop off).take n).length=n
 ·rw[if_pos h1]
  by_cases h2:((x.drop off).take n).all (fun x=>a8 (aH x))=true
  ·rw[if_pos ⟨h1,h2⟩,if_pos h2];rfl
  ·rw[if_neg (fun h=>h2 h.2),if_neg h2];rfl
 ·rw[if_neg (fun h=>h1 h.1),if_neg h1]
def ldA (ml:ML) (agg:Bool) (n:Nat) (m:List (Nat × Option (List AV))) (sh:LL):AV->Option AV
 | .loc s off=>if ml=.lo s then (aF none m s).bind fun cells=>ldC agg off n cells else none
 | .ptr o off=>if ml=.sh then (sh[o]?).bind fun cells=>ldC agg off n cells else none
 | .ip cells=>eA agg 0 n cells
 | _=>none
@[go_sem] theorem SN (s:Nat) (agg:Bool) (n off:Nat):ldA (.lo s) agg n m sh (.loc s off)=(aF none m s).bind fun cells=>ldC agg off n cells:=by simp [ldA]
@[go_sem] theorem x9 (agg:Bool) (n o off:Nat):ldA .sh agg n m sh (.ptr o off)=(sh[o]?).bind fun cells=>ldC agg off n cells:=by simp [ldA]
@[go_sem] theorem UP (ml:ML) (agg:Bool) (n:Nat) (cells:List AV):ldA ml agg n m sh (.ip cells)=eA agg 0 n cells:=(rfl)
theorem lG (ml:ML) (d:Nat) (v:AV):(some (put (cI (wrm (ST l m sh) (rdm (ST l m sh) ml) ml) none) (some d) v):Option AS)=dP d l m sh (some v):=by
 rw[@wT A7,gU,eJ];rfl
@[go_sem] theorem WD (d:Nat) (agg:Bool) (n:Nat) (x:AR) (ml:ML):opX G (some d) (.ld agg n) [x] ml none (ST l m sh)=dP d l m sh (ldA ml agg n m sh (ev (aF .any l) x)):=by
 unfold opX;have key:=fun v=>lG (l:=l) (m:=m) (sh:=sh) ml d v
 simp only[map_cons,map_nil,kf,kf0,iH];cases hx:ev (aF AV.any l) x<;>simp only[ldA]<;>try rfl
 ·rename_i o off
  by_cases hml:ml=.sh
  ·subst hml
   simp only[if_true,gI]
   cases sh[o]? with
   | none=>rfl
   | some cells =>
    simp only[Option.bind_some]
    cases ldC agg off n cells with
    | none=>rfl
    | some v=>exact key v
  ·simp only[hml,if_false];rfl
 ·rename_i s off
  by_cases hml:ml=.lo s
  ·subst hml
   rw[if_pos rfl,if_pos rfl];have h1:(rdm (ST l m sh) (.lo s)).1=aF none m s:=rfl;rw[h1]
   cases aF none m s with
   | none=>rfl
   | some cells =>
    simp only[Option.bind_some]
    cases ldC agg off n cells with
    | none=>rfl
    | some v=>exact key v
  ·simp only[hml,if_false];rfl
 ·cases eA agg 0 n _ with
  | none=>rfl
  | some v=>exact key v
@[go_sem] theorem RE (k:IntKind) (n:Int) (x:List AV):bV (.int k n :: x)=true:=(rfl)
@[go_sem] theorem S8 (o:Own) (z:Nat) (y:LL) (x:List AV):bV (.sl o z y :: x)=true:=(rfl)
def stX (ml:ML) (_:Nat) (l:List (Nat × AV)) (m:List (Nat × Option (List AV))) (sh:LL):AV->Option (List AV)->Option AS
 | .loc s off,some cs=>if ml=.lo s then (aF none m s).bind fun cells=>(d6 off cs cells).map fun c'=>ST l (dE m s (some c')) sh else none
 | .ptr o off,some cs=>if ml=.sh then (sh[o]?).bind fun cells=>if bV cells=true then (d6 off cs cells).map fun c'=>ST l m (sh.set o c') else none else none
 | _,_=>none
@[go_sem] theorem RW (s n off:Nat) (cs:List AV):stX (.lo s) n l m sh (.loc s off) (some cs)=(aF none m s).bind fun cells=>(d6 off cs cells).map fun c'=>ST l (dE m s (some c')) sh:=by simp [stX]
@[go_sem] theorem w9 (o n off:Nat) (cs:List AV):stX .sh n l m sh (.ptr o off) (some cs)=(sh[o]?).bind fun cells=>if bV cells=true then (d6 off cs cells).map fun c'=>ST l m (sh.set o c') else none:=by simp [stX]
@[go_sem] theorem WA (n:Nat) (x y:AR) (ml:ML):opX G none (.st n) [x,y] ml none (ST l m sh)=stX ml n l m sh (ev (aF .any l) x) (dC n (ev (aF .any l) y)):=by
 unfold opX;simp only[map_cons,map_nil,kf,kf0,iH];cases hy:dC n (ev (aF AV.any l) y) with
 | none =>
  have h0:∀ {α β:Type} (o:Option α),(o.bind fun _=>(none:Option β))=none:=fun o=>by cases o<;>rfl
  cases ev (aF AV.any l) x<;>simp only[stX,Option.bind_none,h0,ite_self]<;>rfl
 | some cs =>
  cases hx:ev (aF AV.any l) x<;>simp only[stX,Option.bind_some]<;>try rfl
  ·rename_i o off
   by_cases hml:ml=.sh
   ·subst hml
    simp only[if_true,gI]
    cases sh[o]? with
    | none=>rfl
    | some cells =>
     simp only[Option.bind_some];by_cases hb:bV cells=true
     ·rw[if_pos hb,if_pos hb]
      cases d6 off cs cells<;>rfl
     ·rw[if_neg hb,if_neg hb]
   ·simp only[hml,if_false]
  ·rename_i s off
   by_cases hml:ml=.lo s
   ·subst hml
    simp only[if_true,vX]
    cases aF none m s with
    | none=>rfl
    | some cells =>
     simp only[Option.bind_some]
     cases d6 off cs cells with
     | none=>rfl
     | some c' =>
      show some (put (cI (wrm (ST l m sh) _ (.lo s)) none) none _)=_;rw[vJ];rfl
   ·simp only[hml,if_false]
def qM (d:Nat) (l:List (Nat × AV)) (m:List (Nat × Option (List AV))) (r:Option (AV × LL)):Option AS:=r.map fun r=>ST (dE l d r.1) m r.2
@[go_sem] theorem M5 (d:Nat) (v:AV) (sh':LL):qM d l m (some (v,sh'))=some (ST (dE l d v) m sh'):=(rfl)
@[go_sem] theorem M6 (d:Nat):qM d l m none=none:=(rfl)
@[go_sem] theorem OW (d:Nat) (c:Prop) [Decidable c] (x y:Option (AV × LL)):qM d l m (if c then x else y)=if c then qM d l m x else qM d l m y:=by split<;>rfl
theorem GD {d:Nat} {k:AK} {args:List AR} {r:Option (AV × LL)} (h:kf G d .sh k (args.map (ev (aF .any l))) (none,sh)=r.map fun v=>(v.1,(none,v.2))):opX G (some d) k args .sh none (ST l m sh)=qM d l m r:=by
 unfold opX;have h':kf G ((some d).getD 0) .sh k (args.map (ev (ST l m sh).fr)) (rdm (ST l m sh) .sh)=r.map fun v=>(v.1,(none,v.2)):=h
 rw[h']
 cases r with
 | none=>rfl
 | some v =>
  show some (put (ST l m v.2) (some d) v.1)=_;rw[eJ];rfl
def KC (sh:LL):AV->Option (AV × LL)
 | .str s=>if s.length<=140737488355328 then some (.ss sh.length 0 s.length 1,sh++[s.map fun b=>.int .u8 (b.toNat:Int)]) else none
 | _=>none
def bY (s:List UInt8):List AV:=s.map fun b=>.int .u8 (b.toNat:Int)
@[go_sem] theorem ON (s:List UInt8):KC sh (.str s)=if s.length<=140737488355328 then some (.ss sh.length 0 s.length 1,sh++[bY s]) else none:=(rfl)
@[go_sem] theorem T5 (d:Nat) (x:AR):opX G (some d) .s2b [x] .sh none (ST l m sh)=qM d l m (KC sh (ev (aF .any l) x)):=by
 apply GD;simp only[map_cons,map_nil,kf]
 cases ev (aF AV.any l) x<;>try rfl
 simp only[kf0,KC,true_and]
 split<;>rfl
def AM (sh:LL):AV->Option AV
 | .sl _ z l=>if z=1 then (aZ l).map .str else none
 | .ss o off n z=>if z=1 then (eC false 1 sh (.ss o off n z)).bind fun l=>(aZ l).map .str else none
 | _=>none
@[go_sem] theorem H3 (o off n:Nat):AM sh (.ss o off n 1)=(sh[o]?).bind fun cells=>(cN off n 1 cells).bind fun l=>(aZ l).map .str:=by
 simp only[AM,eC,if_true,and_self];cases sh[o]?<;>rfl
@[go_sem] theorem SA (d:Nat) (x:AR):opX G (some d) .b2s [x] .sh none (ST l m sh)=dP d l m sh (AM sh (ev (aF .any l) x)):=by
 unfold opX;simp only[map_cons,map_nil,kf,iH];cases hx:ev (aF AV.any l) x<;>try rfl
 ·rename_i o z y
  simp only[kf0,AM,gI];by_cases hz:z=1
  ·rw[if_pos hz,if_pos hz]
   cases aZ y with
   | none=>rfl
   | some s=>exact lG .sh d _
  ·rw[if_neg hz,if_neg hz];rfl
 ·rename_i o off n z
  simp only[kf0,AM,gI,true_and];by_cases hz:z=1
  ·rw[if_pos hz,if_pos hz]
   cases eC false 1 sh (.ss o off n z) with
   | none=>rfl
   | some y =>
    simp only[Option.bind_some]
    cases aZ y with
    | none=>rfl
    | some s=>exact lG .sh d _
  ·rw[if_neg hz,if_neg hz];rfl
def MD:AV->Option AV
 | .sl _ z l=>if z=1 then (aZ l).map .str else none
 | _=>none
@[go_sem] theorem TN (o:Own) (x:LL):MD (.sl o 1 x)=(aZ x).map .str:=(rfl)
@[go_sem] theorem UK (d:Nat) (x:AR):opX G (some d) .b2s [x] .none none (ST l m sh)=dP d l m sh (MD (ev (aF .any l) x)):=by
 apply cB;simp only[map_cons,map_nil,kf]
 cases ev (aF AV.any l) x<;>try rfl
 ·simp only[kf0,MD]
  split
  ·simp only[Option.map_map];rfl
  ·rfl
@[go_sem] theorem EA:aZ []=some []:=(rfl)
@[go_sem] theorem D9 (s:List UInt8):aZ (aM s)=some s:=by
 induction s with
 | nil=>rfl
 | cons b s ih =>
  have:aM (b :: s)=[.int .u8 (b.toNat:Int)] :: aM s:=rfl
  rw[this];simp only[aZ,qB,ih,Int.toNat_natCast,UInt8.ofNat_toNat]
def GF (z:Nat) (zero:List AV) (bytes:Nat) (sh:LL):AV->AV->Option (AV × LL)
 | .int k n,.int k' c=>if k=.i64/\k'=.i64/\0<=n/\n<=c/\c*bytes<=140737488355328/\c<=4611686018427387904/\0 < z/\zero.length=z then some (.ss sh.length 0 n.toNat z,sh++[aV zero n.toNat]) else none
 | _,_=>none
@[go_sem] theorem PI (z:Nat) (zero:List AV) (bytes:Nat) (n c:Int):GF z zero bytes sh (.int .i64 n) (.int .i64 c)=if 0<=n/\n<=c/\c*bytes<=140737488355328/\c<=4611686018427387904/\0 < z/\zero.length=z then some (.ss sh.length 0 n.toNat z,sh++[aV zero n.toNat]) else none:=by
 simp only[GF,true_and]
@[go_sem] theorem UA (d z:Nat) (zero:List AV) (bytes:Nat) (x y:AR):opX G (some d) (.mkl z zero bytes) [x,y] .sh none (ST l m sh)=qM d l m (GF z zero bytes sh (ev (aF .any l) x) (ev (aF .any l) y)):=by
 apply GD;simp only[map_cons,map_nil,kf]
 cases ev (aF AV.any l) x<;>cases ev (aF AV.any l) y<;>try rfl
 simp only[kf0,GF,true_and]
 split<;>rfl
def gE (z bytes:Nat) (sh:LL) (l2:Option LL) (x:AV):Option (AV × LL):=
 l2.bind fun l2=>match x with
   | .sl .full _ []=>if l2=[] then some (.sl .full z [],sh) else if 0 < z/\l2.length*bytes<=140737488355328/\l2.length<=4611686018427387904 then some (.ss sh.length 0 l2.length z,sh++[l2.flatten]) else none
   | .ss o off n z'=>if off=0/\z'=z/\0 < z/\(n+l2.length)*bytes<=140737488355328/\n+l2.length<=4611686018427387904 then
     (sh[o]?).bind fun cells=>if bV cells/\n*z=cells.length/\cells.all fC then some (.ss sh.length 0 (n+l2.length) z,sh.set o bJ++[cells++l2.flatten]) else none
    else none
   | _=>none
@[go_sem] theorem SC (d:Nat) (str:Bool) (z bytes:Nat) (x y:AR):opX G (some d) (.appS str z bytes) [x,y] .sh none (ST l m sh)=qM d l m (gE z bytes sh (eC str z sh (ev (aF .any l) y)) (ev (aF .any l) x)):=by
 apply GD;simp only[map_cons,map_nil,kf,kf0,if_true,gE]
 cases eC str z sh (ev (aF AV.any l) y) with
 | none=>rfl
 | some l2 =>
  simp only[Option.bind_some];generalize ev (aF AV.any l) x=vx
  cases vx<;>try rfl
  ·rename_i o z' y
   cases o<;>cases y<;>try rfl
   simp only;by_cases h1:l2=[]
   ·rw[if_pos h1,if_pos h1];rfl
   ·rw[if_neg h1,if_neg h1]
    split<;>rfl
  ·rename_i o off n z'
   simp only;by_cases h1:off=0/\z'=z/\0 < z/\(n+l2.length)*bytes<=140737488355328/\n+l2.length<=4611686018427387904
   ·rw[if_pos h1,if_pos h1]
    cases sh[o]? with
    | none=>rfl
    | some cells =>
     simp only[Option.bind_some]
     split<;>rfl
   ·rw[if_neg h1,if_neg h1];rfl
def BR (len:Nat) (sh:LL):AV->AV->AV->Option AV
 | .ptr o off,.int _ i,.int _ j=>if 0<=i/\i < j/\j<=len then (sh[o]?).bind fun cells=>if bV cells/\off+len<=cells.length then some (.ss o (off+i.toNat) (j.toNat - i.toNat) 1) else none else none
 | _,_,_=>none
@[go_sem] theorem T2 (d len:Nat) (x i j:AR):opX G (some d) (.sla len) [x,i,j] .sh none (ST l m sh)=dP d l m sh (BR len sh (ev (aF .any l) x) (ev (aF .any l) i) (ev (aF .any l) j)):=by
 unfold opX;have h':kf G ((some d).getD 0) .sh (.sla len) ([x,i,j].map (ev (ST l m sh).fr)) (rdm (ST l m sh) .sh)=(BR len sh (ev (aF .any l) x) (ev (aF .any l) i) (ev (aF .any l) j)).map fun v=>(v,(none,sh)):=by
  simp only[map_cons,map_nil,kf,iH]
  cases ev (aF AV.any l) x<;>cases ev (aF AV.any l) i<;>cases ev (aF AV.any l) j<;>try rfl
  rename_i o off k1 i k2 j;simp only[kf0,BR,true_and,gI];by_cases h:0<=i/\i < j/\j<=len
  ·rw[if_pos h,if_pos h]
   cases sh[o]? with
   | none=>rfl
   | some cells =>
    simp only[Option.bind_some];by_cases h2:bV cells=true/\off+len<=cells.length
    ·rw[if_pos h2,if_pos h2];rfl
    ·rw[if_neg h2,if_neg h2];rfl
  ·rw[if_neg h,if_neg h];rfl
 rw[h']
 cases BR len sh (ev (aF .any l) x) (ev (aF .any l) i) (ev (aF .any l) j) with
 | none=>rfl
 | some v =>
  show some (put (ST l m sh) (some d) v)=_;rw[eJ];rfl
@[go_sem] theorem OI (len o off:Nat) (k1 k2:IntKind) (i j:Int):BR len sh (.ptr o off) (.int k1 i) (.int k2 j)=if 0<=i/\i < j/\j<=len then (sh[o]?).bind fun cells=>if bV cells/\off+len<=cells.length then some (.ss o (off+i.toNat) (j.toNat - i.toNat) 1) else none else none:=(rfl)
def XE (z:Nat) (zero:List AV) (l:List (Nat × AV)) (m:List (Nat × Option (List AV))) (sh:LL):AV->Option AS
 | .ss o off n z'=>if z'=z/\zero.length=z then (sh[o]?).bind fun cells=>if bV cells then (d6 off (aV zero n) cells).map fun c'=>ST l m (sh.set o c') else none else none
 | .sl _ _ []=>some (ST l m sh)
 | _=>none
def cK (bytes n:Nat):Bool:=decide (n*bytes<=140737488355328/\n<=4611686018427387904)
@[go_sem] theorem rS (z' bytes z:Nat) (hz:0 < z) (r:List AV) (l2:LL):gE z bytes sh (some (r :: l2)) (.sl .full z' [])=if cK bytes (l2.length+1)=true then some (.ss sh.length 0 (l2.length+1) z,sh++[(r :: l2).flatten]) else none:=by
 simp [gE,cK,hz]
@[go_sem] theorem u9 (o n bytes z:Nat) (hz:0 < z) (l2:LL):gE z bytes sh (some l2) (.ss o 0 n z)=if cK bytes (n+l2.length)=true then (sh[o]?).bind fun cells=>if bV cells=true/\n*z=cells.length/\cells.all fC=true then some (.ss sh.length 0 (n+l2.length) z,sh.set o bJ++[cells++l2.flatten]) else none else none:=by
 simp [gE,cK,hz]
@[go_sem] theorem OQ (o:Own) (z:Nat) (x:LL):eC false z sh (.sl o z x)=some x:=by simp [eC,iX]
@[go_sem] theorem MX (s:List UInt8):eC true 1 sh (.str s)=some (aM s):=by simp [eC,iX]
def V8 (z:Nat):AV->Option AV
 | .sl _ _ _=>some (.sl .full z [])
 | .ss _ _ _ _=>some (.sl .full z [])
 | _=>none
def FP (left:Bool) (x y:AV):Option AV:=shA left x y
@[go_sem] theorem T3 (d:Nat) (left:Bool) (x y:AR):opX G (some d) (.shf left) [x,y] .none none (ST l m sh)=dP d l m sh (FP left (ev (aF .any l) x) (ev (aF .any l) y)):=by
 apply cB;simp only[map_cons,map_nil,kf,kf0,FP]
@[go_sem] theorem TX (k k':IntKind) (a b:Int):FP false (.int k a) (.int k' b)=if 0<=b then some (.int k (a.fdiv (2 ^ (min b.toNat k.bits)))) else none:=by simp [FP,shA]
def QZ (k:IntKind):AV->Option AV
 | .int _ n=>some (.int k (k.wrap n))
 | _=>none
@[go_sem] theorem QY (k k':IntKind) (n:Int):QZ k (.int k' n)=some (.int k (k.wrap n)):=(rfl)
@[go_sem] theorem UH (d:Nat) (k:IntKind) (x:AR):opX G (some d) (.cvi k) [x] .none none (ST l m sh)=dP d l m sh (QZ k (ev (aF .any l) x)):=by
 apply cB;simp only[map_cons,map_nil,kf]
 cases ev (aF AV.any l) x<;>rfl
def LA (agg:Bool) (z len:Nat):AV->AV->Option AV
 | .agg l,.int _ i=>if 0<=i/\i < len/\l.length=len*z then eA agg (i.toNat*z) z l else none
 | _,_=>none
@[go_sem] theorem P6 (agg:Bool) (z len:Nat) (x:List AV) (k:IntKind) (i:Int):LA agg z len (.agg x) (.int k i)=if 0<=i/\i < len/\x.length=len*z then eA agg (i.toNat*z) z x else none:=(rfl)
@[go_sem] theorem UE (d:Nat) (agg:Bool) (z len:Nat) (x y:AR):opX G (some d) (.ixA agg z len) [x,y] .none none (ST l m sh)=dP d l m sh (LA agg z len (ev (aF .any l) x) (ev (aF .any l) y)):=by
 apply cB;simp only[map_cons,map_nil,kf]
 cases ev (aF AV.any l) x<;>cases ev (aF AV.any l) y<;>try rfl
 simp only[kf0,LA]
 split<;>rfl
@[go_sem] theorem T9 (d:Nat):opX G (some d) .mkm [] .sh none (ST l m sh)=some (ST (dE l d (.mp sh.length)) m (sh++[[.mapv []]])):=by
 have:opX G (some d) .mkm [] .sh none (ST l m sh)=qM d l m (some (.mp sh.length,sh++[[.mapv []]])):=by
  apply GD;rfl
 rw[this];rfl
def KU (ok agg:Bool) (kk:List Nat) (zero:List AV) (sh:LL):AV->AV->Option AV
 | .mp o,k=>if aY k=true then (gP sh o).bind fun l=>(lkA kk k l).bind fun r=>lkR ok agg zero r else none
 | _,_=>none
@[go_sem] theorem SK (ok agg:Bool) (kk:List Nat) (zero:List AV) (o:Nat) (k:AV):KU ok agg kk zero sh (.mp o) k=if aY k=true then (gP sh o).bind fun l=>(lkA kk k l).bind fun r=>lkR ok agg zero r else none:=(rfl)
@[go_sem] theorem UB (d:Nat) (ok agg:Bool) (kk:List Nat) (zero:List AV) (x y:AR):opX G (some d) (.lkp ok agg kk zero) [x,y] .sh none (ST l m sh)=dP d l m sh (KU ok agg kk zero sh (ev (aF .any l) x) (ev (aF .any l) y)):=by
 unfold opX;simp only[map_cons,map_nil,kf,iH];cases hx:ev (aF AV.any l) x<;>try rfl
 rename_i o;simp only[kf0,KU,gI,true_and];by_cases hz:aY (ev (aF AV.any l) y)=true
 ·rw[if_pos hz,if_pos hz]
  cases gP sh o with
  | none=>rfl
  | some y' =>
   simp only[Option.bind_some]
   cases lkA kk (ev (aF AV.any l) y) y' with
   | none=>rfl
   | some r =>
    simp only[Option.bind_some]
    cases lkR ok agg zero r with
    | none=>rfl
    | some v=>exact lG .sh d v
 ·rw[if_neg hz,if_neg hz];rfl
def KO (kk:List Nat) (l:List (Nat × AV)) (m:List (Nat × Option (List AV))) (sh:LL):AV->AV->AV->Option AS
 | .mp o,k,v=>if aP k=true/\aP v=true then (gP sh o).bind fun x=>(muA kk k v x).map fun x'=>ST l m (sh.set o [.mapv x']) else none
 | _,_,_=>none
@[go_sem] theorem SE (kk:List Nat) (o:Nat) (k v:AV):KO kk l m sh (.mp o) k v=if aP k=true/\aP v=true then (gP sh o).bind fun x=>(muA kk k v x).map fun x'=>ST l m (sh.set o [.mapv x']) else none:=(rfl)
@[go_sem] theorem T7 (kk:List Nat) (x y z:AR):opX G none (.mup kk) [x,y,z] .sh none (ST l m sh)=KO kk l m sh (ev (aF .any l) x) (ev (aF .any l) y) (ev (aF .any l) z):=by
 unfold opX;simp only[map_cons,map_nil,kf,iH];cases hx:ev (aF AV.any l) x<;>try rfl
 rename_i o;simp only[kf0,KO,gI,true_and];by_cases hz:aP (ev (aF AV.any l) y)=true/\aP (ev (aF AV.any l) z)=true
 ·rw[if_pos hz,if_pos hz]
  cases gP sh o with
  | none=>rfl
  | some y' =>
   simp only[Option.bind_some]
   cases muA kk (ev (aF AV.any l) y) (ev (aF AV.any l) z) y'<;>rfl
 ·rw[if_neg hz,if_neg hz]
def WW (sh:LL):AV->Option (AV × LL)
 | .ptr o off=>(sh[o]?).bind fun cells=>if bV cells=true then (cells[off]?).bind fun x=>match x with
   | .sl .own z l=>some (x,sh.set o (cells.set off (.sl .no z l)))
   | .sl .full _ _=>some (x,sh)
   | _=>none else none
 | _=>none
def WV (o off:Nat) (cells:List AV) (sh:LL):AV->Option (AV × LL)
 | .sl .own z l=>some (.sl .own z l,sh.set o (cells.set off (.sl .no z l)))
 | .sl .full z l=>some (.sl .full z l,sh)
 | _=>none
def WP (l:List (Nat × AV)) (m:List (Nat × Option (List AV))) (sh:LL):AV->AV->Option AS
 | .ptr o off,.sl md z x=>(sh[o]?).bind fun cells=>if bV cells=true/\off < cells.length then some (ST l m (sh.set o (cells.set off (.sl md z x)))) else none
 | _,_=>none
def KE (d:Nat) (l:List (Nat × AV)) (m:List (Nat × Option (List AV))) (sh:LL):Option (AV × LL)->Option AS
 | some (v,[])=>some (ST (dE l d v) m sh)
 | _=>none
def KD (d:Nat) (l:List (Nat × AV)) (m:List (Nat × Option (List AV))):Option (AV × LL)->Option AS
 | some (v,sh')=>some (ST (dE l d v) m sh')
 | none=>none
@[go_sem] theorem MZ (d:Nat) (v:AV):KE d l m sh (some (v,[]))=some (ST (dE l d v) m sh):=(rfl)
@[go_sem] theorem MY (d:Nat) (v:AV) (sh':LL):KD d l m (some (v,sh'))=some (ST (dE l d v) m sh'):=(rfl)
def gK (p:Bool) (xs:List AV):Bool:=xs.all (d9 p)
@[go_sem] theorem KL (p:Bool):gK p []=true:=(rfl)
@[go_sem] theorem IQ (p:Bool) (x:AV) (xs:List AV):gK p (x :: xs)=(d9 p x && gK p xs):=(rfl)
@[go_sem] theorem RL (p:Bool) (k:IntKind) (n:Int):d9 p (.int k n)=true:=(rfl)
@[go_sem] theorem NZ (p b:Bool):d9 p (.bool b)=true:=(rfl)
@[go_sem] theorem RJ (p:Bool) (s:List UInt8):d9 p (.str s)=true:=(rfl)
@[go_sem] theorem RK (p:Bool) (a b:Nat):d9 p (.ptr a b)=p:=(rfl)
@[go_sem] theorem TO (p:Bool) (a b c d:Nat):d9 p (.ss a b c d)=p:=(rfl)
@[go_sem] theorem RM (p:Bool) (x:List AV):d9 p (.agg x)=true:=(rfl)
@[go_sem] theorem TP (p:Bool) (o:Own) (z:Nat) (x:LL):d9 p (.sl o z x)=true:=(rfl)
@[go_sem] theorem TQ (p:Bool) (f:FuncId) (caps:List AV):d9 p (.fn f caps)=caps.all (u4 p):=(rfl)
def m0 (G:aL) (d:Nat) (f:FuncId) (xs:List AV) (l:List (Nat × AV)) (m:List (Nat × Option (List AV))) (sh:LL):Option AS:=
 if gK false xs then KE d l m sh (G f (xs.map dO) []) else none
def pZ (G:aL) (d:Nat) (f:FuncId) (xs:List AV) (l:List (Nat × AV)) (m:List (Nat × Option (List AV))) (sh:LL):Option AS:=
 if gK true xs then KD d l m (G f (xs.map aH) sh) else none
theorem rP (d:Nat) (f:FuncId) (xs:List AV):(match gV G .none f xs (rdm (ST l m sh) .none) with | some (v,m')=>some (put (cI (wrm (ST l m sh) m' .none) none) (some d) v) | none=>none)=m0 G d f xs l m sh:=by
 unfold gV m0 gK;simp only;by_cases hc:xs.all (d9 false)=true
 ·rw[if_pos hc,if_pos hc]
  cases hg:G f (xs.map dO) [] with
  | none=>rfl
  | some r =>
   obtain⟨v,sh'⟩:=r
   cases sh' with
   | nil =>
    show some (put (ST l m sh) (some d) v)=_;rw[eJ];rfl
   | cons c cs=>rfl
 ·rw[if_neg hc,if_neg hc]
theorem HY (d:Nat) (f:FuncId) (xs:List AV):(match gV G .sh f xs (rdm (ST l m sh) .sh) with | some (v,m')=>some (put (cI (wrm (ST l m sh) m' .sh) none) (some d) v) | none=>none)=pZ G d f xs l m sh:=by
 unfold gV pZ gK;simp only[gI];by_cases hc:xs.all (d9 true)=true
 ·rw[if_pos hc,if_pos hc]
  cases hg:G f (xs.map aH) sh with
  | none=>rfl
  | some r =>
   obtain⟨v,sh'⟩:=r;show some (put (ST l m sh') (some d) v)=_;rw[eJ];rfl
 ·rw[if_neg hc,if_neg hc]
@[go_sem] theorem O9 (d:Nat) (f:FuncId) (args:List AR):opX G (some d) (.call f) args .none none (ST l m sh)=m0 G d f (args.map (ev (aF .any l))) l m sh:=rP d f _
@[go_sem] theorem O8 (d:Nat) (f:FuncId) (args:List AR):opX G (some d) (.call f) args .sh none (ST l m sh)=pZ G d f (args.map (ev (aF .any l))) l m sh:=HY d f _
@[go_sem] theorem NV (d:Nat) (f:FuncId) (xs:List AV):m0 G d f xs l m sh=if gK false xs then KE d l m sh (G f (xs.map dO) []) else none:=(rfl)
@[go_sem] theorem NU (d:Nat) (f:FuncId) (xs:List AV):pZ G d f xs l m sh=if gK true xs then KD d l m (G f (xs.map aH) sh) else none:=(rfl)
def DR (G:aL) (d:Nat) (f:AV) (xs:List AV) (l:List (Nat × AV)) (m:List (Nat × Option (List AV))) (sh:LL):Option AS:=
 match f with
 | .fn f caps=>m0 G d f (xs++caps) l m sh
 | _=>none
def S6 (G:aL) (d:Nat) (f:AV) (xs:List AV) (l:List (Nat × AV)) (m:List (Nat × Option (List AV))) (sh:LL):Option AS:=
 match f with
 | .fn f caps=>pZ G d f (xs++caps) l m sh
 | _=>none
@[go_sem] theorem NT (d:Nat) (f:FuncId) (caps xs:List AV):DR G d (.fn f caps) xs l m sh=m0 G d f (xs++caps) l m sh:=(rfl)
@[go_sem] theorem O7 (d:Nat) (x:AR) (args:List AR):opX G (some d) .callv (x :: args) .none none (ST l m sh)=DR G d (ev (aF .any l) x) (args.map (ev (aF .any l))) l m sh:=by
 unfold opX;simp only[map_cons,kf,s9,iH]
 cases ev (aF AV.any l) x<;>try rfl
 exact rP d _ _
def TY (d:Nat) (l:List (Nat × AV)) (m:List (Nat × Option (List AV))) (sh:LL):Option (AV × LL)->Option AS
 | some (v,[])=>if tV v=true then some (ST (dE l d v) m sh) else none
 | _=>none
@[go_sem] theorem IJ (k:IntKind) (n:Int):aY (.int k n)=true:=(rfl)
@[go_sem] theorem II (s:List UInt8):aY (.str s)=true:=(rfl)
@[go_sem] theorem JJ (k:IntKind) (n:Int):aP (.int k n)=true:=(rfl)
@[go_sem] theorem H4 (b:Bool):aP (.bool b)=true:=(rfl)
@[go_sem] theorem JI (s:List UInt8):aP (.str s)=true:=(rfl)
@[go_sem] theorem OE (o off n z:Nat):jV sh (.ss o off n z)=(sh[o]?).bind fun cells=>(cN off n z cells).map fun l=>.sl .no z l:=(rfl)
def rL:Option AV->Option (List AV)->Option (List AV)
 | some x,some xs=>some (x :: xs)
 | _,_=>none
@[go_sem] theorem LY (x:AV) (xs:List AV):rL (some x) (some xs)=some (x :: xs):=(rfl)
def L2 (G:aL) (d:Nat) (f:FuncId) (ys:Option (List AV)) (l:List (Nat × AV)) (m:List (Nat × Option (List AV))) (sh:LL):Option AS:=
 ys.bind fun xs=>if gK false xs then TY d l m sh (G f (xs.map dO) []) else none
def S7 (G:aL) (d:Nat) (f:AV) (xs:List AV) (l:List (Nat × AV)) (m:List (Nat × Option (List AV))) (sh:LL):Option AS:=
 match f with
 | .fn f caps=>L2 G d f (qV sh (xs++caps)) l m sh
 | _=>none
@[go_sem] theorem TL (k:IntKind) (a b:Int):dS .and (.int k a) (.int k b)=some (.int k (k.wrap (((a % 2 ^ k.bits).toNat &&& (b % 2 ^ k.bits).toNat:Nat):Int))):=by simp [dS]
@[go_sem] theorem TM (k:IntKind) (a b:Int):dS .add (.int k a) (.int k b)=some (.int k (k.wrap (a+b))):=by simp [dS]
@[go_sem] theorem S9 (k:IntKind) (a b:Int):dS .sub (.int k a) (.int k b)=some (.int k (k.wrap (a - b))):=by simp [dS]
@[go_sem] theorem TF (k:IntKind) (a b:Int):dS .mul (.int k a) (.int k b)=some (.int k (k.wrap (a*b))):=by simp [dS]
@[go_sem] theorem TD (k:IntKind) (a b:Int):dS .quo (.int k a) (.int k b)=if b=0 then none else some (.int k (k.wrap (a.tdiv b))):=by simp [dS]
@[go_sem] theorem TC (k:IntKind) (a b:Int):dS .rem (.int k a) (.int k b)=if b=0 then none else some (.int k (a.tmod b)):=by simp [dS]
@[go_sem] theorem TK (k:IntKind) (a b:Int):dS .eql (.int k a) (.int k b)=some (.bool (decide (a=b))):=by simp [dS];rfl
@[go_sem] theorem TE (k:IntKind) (a b:Int):dS .neq (.int k a) (.int k b)=some (.bool (decide (a≠b))):=by simp [dS,bne];rfl
@[go_sem] theorem TG (k:IntKind) (a b:Int):dS .lss (.int k a) (.int k b)=some (.bool (decide (a < b))):=by simp [dS]
@[go_sem] theorem TH (k:IntKind) (a b:Int):dS .leq (.int k a) (.int k b)=some (.bool (decide (a<=b))):=by simp [dS]
@[go_sem] theorem TI (k:IntKind) (a b:Int):dS .gtr (.int k a) (.int k b)=some (.bool (decide (b < a))):=by simp [dS]
@[go_sem] theorem TJ (k:IntKind) (a b:Int):dS .geq (.int k a) (.int k b)=some (.bool (decide (b<=a))):=by simp [dS]
@[go_sem] theorem DU (a b:List UInt8):dS .add (.str a) (.str b)=if a.length+b.length<=140737488355328 then some (.str (a++b)) else none:=(rfl)
@[go_sem] theorem RG (a b:List UInt8):dS .eql (.str a) (.str b)=some (.bool (a == b)):=(rfl)
@[go_sem] theorem RF (a b:List UInt8):dS .neq (.str a) (.str b)=some (.bool (a != b)):=(rfl)
theorem DS (F:AFun) (args:List AV) (sh:LL) (h:args.length=F.nargs):yS G F args sh=DC F sh (aC G F.body (ST (qP 0 args) [] sh)):=by
 unfold yS;rw[if_pos h,C3]
def AG (keep:Bool) (sh0:LL) (res:List ARes) (r:Option (AX × AS)):Option (AV × LL):=DC ⟨0,keep,.skip,res⟩ sh0 r
def xQ (keep:Bool) (sh0:LL) (res:List ARes) (σ:AS):Option (AV × LL):=match dU keep sh0 σ res with
  | some vs=>t9 keep sh0.length vs σ.sh
  | none=>none
@[go_sem] theorem NO (keep:Bool) (sh0:LL) (res:List ARes) (σ:AS):AG keep sh0 res (some (.norm,σ))=xQ keep sh0 res σ:=(rfl)
@[go_sem] theorem QC (keep:Bool) (sh0:LL) (res:List ARes) (σ:AS):AG keep sh0 res (some (.ret,σ))=xQ keep sh0 res σ:=(rfl)
@[go_sem] theorem QD (keep:Bool) (sh0:LL) (res:List ARes) (c:Prop) [Decidable c] (x y:Option (AX × AS)):AG keep sh0 res (if c then x else y)=if c then AG keep sh0 res x else AG keep sh0 res y:=by split<;>rfl
def yR (agg:Bool) (n:Nat) (m:List (Nat × Option (List AV))) (sh:LL):AV->Option AV
 | .loc s off=>(aF none m s).bind fun cells=>ldC agg off n cells
 | .ptr o off=>(sh[o]?).bind fun cells=>if bV cells then ldC agg off n cells else none
 | _=>none
def gO (keep:Bool) (sh0:LL) (l:List (Nat × AV)) (m:List (Nat × Option (List AV))) (sh:LL):List ARes->Option (List AV)
 | []=>some []
 | .tmp t :: rs=>rL (fZ keep sh0 sh (dO (aF .any l t))) (gO keep sh0 l m sh rs)
 | .tmpD t :: rs=>rL (fZ keep sh0 sh (aH (aF .any l t))) (gO keep sh0 l m sh rs)
 | .cell t agg n :: rs=>rL ((yR agg n m sh (aF .any l t)).bind (fZ keep sh0 sh)) (gO keep sh0 l m sh rs)
@[go_sem] theorem OU (keep:Bool) (sh0:LL):gO keep sh0 l m sh []=some []:=(rfl)
@[go_sem] theorem OT (keep:Bool) (sh0:LL) (t:Nat) (rs:List ARes):gO keep sh0 l m sh (.tmp t :: rs)=rL (fZ keep sh0 sh (dO (aF .any l t))) (gO keep sh0 l m sh rs):=(rfl)
@[go_sem] theorem M0 (keep:Bool) (sh0:LL) (t:Nat) (rs:List ARes):gO keep sh0 l m sh (.tmpD t :: rs)=rL (fZ keep sh0 sh (aH (aF .any l t))) (gO keep sh0 l m sh rs):=(rfl)
theorem nX (keep:Bool) (sh0:LL):∀ rs,dU keep sh0 (ST l m sh) rs=gO keep sh0 l m sh rs
 | []=>rfl
 | .tmp t :: rs=>by
  simp only[dU,sK,Option.bind_some,gO,nX keep sh0 rs];show (match fZ keep sh0 sh (dO (aF .any l t)),gO keep sh0 l m sh rs with | some v,some vs=>some (v :: vs) | _,_=>none)=_
  cases fZ keep sh0 sh (dO (aF .any l t))<;>cases gO keep sh0 l m sh rs<;>rfl
 | .tmpD t :: rs=>by
  simp only[dU,sK,Option.bind_some,gO,nX keep sh0 rs];show (match fZ keep sh0 sh (aH (aF .any l t)),gO keep sh0 l m sh rs with | some v,some vs=>some (v :: vs) | _,_=>none)=_
  cases fZ keep sh0 sh (aH (aF .any l t))<;>cases gO keep sh0 l m sh rs<;>rfl
 | .cell t agg n :: rs=>by
  simp only[dU,gO,nX keep sh0 rs];have h1:sK (ST l m sh) (.cell t agg n)=yR agg n m sh (aF .any l t):=by
   simp only[sK,JK]
   cases aF AV.any l t<;>rfl
  rw[h1];show (match (yR agg n m sh (aF .any l t)).bind (fZ keep sh0 sh),gO keep sh0 l m sh rs with | some v,some vs=>some (v :: vs) | _,_=>none)=_
  cases (yR agg n m sh (aF .any l t)).bind (fZ keep sh0 sh)<;>cases gO keep sh0 l m sh rs<;>rfl
def AY:List AV->AV
 | [v]=>v
 | vs=>.tup vs
@[go_sem] theorem N1 (v:AV):AY [v]=v:=(rfl)
@[go_sem] theorem N2:AY []=.tup []:=(rfl)
@[go_sem] theorem MH (v u:AV) (r:List AV):AY (v :: u :: r)=.tup (v :: u :: r):=(rfl)
def rA (k:Bool) (vs:List AV):Bool:=vs.all (kF k)
@[go_sem] theorem NB (k:Bool):rA k []=true:=(rfl)
@[go_sem] theorem KJ (k:Bool) (v:AV) (vs:List AV):rA k (v :: vs)=(kF k v && rA k vs):=(rfl)
def eI (keep:Bool) (n0:Nat) (sh:LL):Bool:=keep || (sh.take n0).all fun c=>c.all (fB n0)
@[go_sem] theorem IL (n0:Nat):eI true n0 sh=true:=(rfl)
@[go_sem] theorem IK:eI false 0 sh=true:=(rfl)
def CD (keep:Bool) (n0:Nat) (sh:LL):Option (List AV)->Option (AV × LL)
 | some vs=>if rA keep vs=true/\eI keep n0 sh=true then some (AY vs,if keep then sh else sh.take n0) else none
 | none=>none
@[go_sem] theorem KI (keep:Bool) (n0:Nat) (vs:List AV):CD keep n0 sh (some vs)=if rA keep vs=true/\eI keep n0 sh=true then some (AY vs,if keep then sh else sh.take n0) else none:=(rfl)
@[go_sem] theorem O4 (keep:Bool) (sh0:LL) (res:List ARes):xQ keep sh0 res (ST l m sh)=CD keep sh0.length sh (gO keep sh0 l m sh res):=by
 unfold xQ;rw[nX]
 cases gO keep sh0 l m sh res with
 | none=>rfl
 | some vs =>
  show t9 keep sh0.length vs sh=_;unfold t9 CD rA eI;simp only[Bool.or_eq_true];rfl
@[go_sem] theorem QB (keep:Bool) (sh0:LL) (k:IntKind) (n:Int):fZ keep sh0 sh (.int k n)=some (.int k n):=(rfl)
@[go_sem] theorem NK (keep:Bool) (sh0:LL) (b:Bool):fZ keep sh0 sh (.bool b)=some (.bool b):=(rfl)
@[go_sem] theorem QA (keep:Bool) (sh0:LL) (s:List UInt8):fZ keep sh0 sh (.str s)=some (.str s):=(rfl)
@[go_sem] theorem SQ (keep:Bool) (sh0:LL) (o:Own) (z:Nat) (x:LL):fZ keep sh0 sh (.sl o z x)=some (.sl o z x):=(rfl)
@[go_sem] theorem NJ (sh0:LL) (o off n z:Nat):fZ true sh0 sh (.ss o off n z)=some (.ss o off n z):=(rfl)
@[go_sem] theorem SP (sh0:LL) (o off n z:Nat):fZ false sh0 sh (.ss o off n z)=if sh0.length<=o/\cZ sh0 sh=true then jV sh (.ss o off n z) else none:=(rfl)
@[go_sem] theorem R2 (p:Bool) (a b c d:Nat):kF p (.ss a b c d)=p:=(rfl)
@[go_sem] theorem O6 (p:Bool) (k:IntKind) (n:Int):kF p (.int k n)=true:=(rfl)
@[go_sem] theorem M9 (p b:Bool):kF p (.bool b)=true:=(rfl)
@[go_sem] theorem O5 (p:Bool) (s:List UInt8):kF p (.str s)=true:=(rfl)
@[go_sem] theorem R3 (p:Bool) (o:Own) (z:Nat) (x:LL):kF p (.sl o z x)=true:=(rfl)
theorem aB {B:aL} {T:FuncId->Option AFun} {f:FuncId} (F:AFun) {args:List AV} {sh:LL} {r:AV × LL} (hB:B f args sh=none) (hT:T f=some F) (hn:args.length=F.nargs)
  (h:AG F.keep sh F.res (aC (Gx B T) F.body (ST (qP 0 args) [] sh))=some r):Gx B T f args sh=some r:=by
 letI:=A7
 refine RR hB hT ?_;rw[DS _ _ _ hn];exact h
end
end Go.Av
namespace Go.Av
variable {G:aL} {l:List (Nat × AV)} {m:List (Nat × Option (List AV))} {sh:LL}
noncomputable def nE (G:aL) (L:ACode) (kill:List Nat) (r:Option (AX × AS)):Option (AX × AS):=match r with
 | some (.norm,σ')=>aC G L (forget kill σ')
 | r=>r
theorem tU (a:List Nat) (v:AV):aS a (aS a v)=aS a v:=by
 cases v with
 | loc s o=>by_cases h:s∈a<;>simp [aS,h]
 | _=>rfl
theorem uS (kill:List Nat) (σ:AS):forget kill (forget kill σ)=forget kill σ:=by
 unfold forget;simp only[AS.mk.injEq,and_true];refine⟨?_,?_⟩
 ·funext t
  by_cases h:t∈kill
  ·simp [h]
  ·simp [h,tU]
 ·funext t
  by_cases h:t∈kill<;>simp [h]
theorem aA {L:ACode} {kill:List Nat} {a:ACode} (h:L=.loop kill a) (l:List (Nat × AV)) (m:List (Nat × Option (List AV))) (sh:LL) :
  aC G L (ST l m sh)=nE G L kill (aC G a (ST (fR kill l) (eW kill m) sh)):=by
 subst h;rw[MF];have hf:∀ σ,aC G (.loop kill a) σ=aC G (.loop kill a) (forget kill σ):=by
  intro σ;show pO (fun σ=>aC G a (forget kill σ)) σ=pO (fun σ=>aC G a (forget kill σ)) (forget kill σ);rw[@pN A7,@pN A7 _ (forget kill σ)];simp only[uS]
 cases aC G a (ST (fR kill l) (eW kill m) sh) with
 | none=>rfl
 | some r =>
  obtain⟨x,σ⟩:=r
  cases x with
  | norm=>exact hf σ
  | _=>rfl
@[go_sem] theorem KS (L:ACode) (kill:List Nat) (l:List (Nat × AV)) (m:List (Nat × Option (List AV))) (sh:LL):nE G L kill (some (.norm,ST l m sh))=aC G L (ST (fR kill l) (eW kill m) sh):=by
 rw[<- mX];rfl
@[go_sem] theorem PJ (L:ACode) (kill:List Nat) (i:Nat) (σ:AS):nE G L kill (some (.ex i,σ))=some (.ex i,σ):=(rfl)
@[go_sem] theorem ND (L:ACode) (kill:List Nat) (σ:AS):nE G L kill (some (.ret,σ))=some (.ret,σ):=(rfl)
@[go_sem] theorem KT (L:ACode) (kill:List Nat):nE G L kill none=none:=(rfl)
@[go_sem] theorem NE (L:ACode) (kill:List Nat) (c:Prop) [Decidable c] (x y:Option (AX × AS)):nE G L kill (if c then x else y)=if c then nE G L kill x else nE G L kill y:=by split<;>rfl
@[go_sem] theorem GW:(none:Option (List AV)).isNone=true:=(rfl)
def yP:Option (List AV)->Option LL->Option LL
 | some r,some rs=>some (r :: rs)
 | _,_=>none
def dG (z:Nat):List AV->Option LL
 | []=>some []
 | x :: xs=>yP (bB z x) (dG z xs)
@[go_sem] theorem KQ (z:Nat):dG z []=some []:=(rfl)
@[go_sem] theorem IT (z:Nat) (x:AV) (xs:List AV):dG z (x :: xs)=yP (bB z x) (dG z xs):=(rfl)
@[go_sem] theorem LX (r:List AV) (rs:LL):yP (some r) (some rs)=some (r :: rs):=(rfl)
theorem l6 {n:Nat} {x:AV} {cs:List AV} (h:bB n x=some cs):cs.length=n:=by
 unfold bB at h
 split at h
 ·split at h
  ·cases h;assumption
  ·cases h
 ·split at h
  ·cases h;rename_i h1;simp [h1.1]
  ·cases h
theorem pF {z:Nat}:∀ {xs:List AV} {rs:LL},dG z xs=some rs->rs.length=xs.length/\∀ r∈rs,r.length=z
 | [],rs,h=>by cases h;simp
 | x :: xs,rs,h=>by
  simp only[dG] at h;cases h1:bB z x with
  | none=>rw[h1] at h;cases h
  | some r =>
   cases h2:dG z xs with
   | none=>rw[h1,h2] at h;cases h
   | some rs' =>
    rw[h1,h2] at h;cases h
    have:=pF h2
    have h3:=l6 h1;simp only[length_cons,this.1,true_and,mem_cons,forall_eq_or_imp];exact⟨h3,this.2⟩
theorem lD (z:Nat):∀ (rs:LL),(∀ r∈rs,r.length=z)->cH z rs.length rs.flatten=rs
 | [],_=>rfl
 | r :: rs,h=>by
  have h1:=h r (by simp);have h2:=lD z rs (fun r hr=>h r (by simp [hr]));show ((r :: rs).flatten).take z :: cH z rs.length (((r :: rs).flatten).drop z)=_;rw[flatten_cons,take_left' h1,drop_left' h1,h2]
theorem nI {z:Nat} {zero:List AV} (hz:zero.length=z):∀ (xs:List AV) (pre:List AV) (k:Nat),pre.length=k*z ->
  dJ (pre++aV zero xs.length) ((List.range' k xs.length).map fun i=>(i*z,z)) xs=(dG z xs).map fun rs=>pre++rs.flatten
 | [],pre,k,h=>by simp [dJ,dG,aV]
 | x :: xs,pre,k,h=>by
  simp only[length_cons,range'_succ,map_cons,dJ,dG];cases h1:bB z x with
  | none=>cases h3:dG z xs<;>rfl
  | some cs =>
   have hc:=l6 h1;have h2:d6 (k*z) cs (pre++aV zero (xs.length+1))=some ((pre++cs)++aV zero xs.length):=by
    rw[show aV zero (xs.length+1)=zero++aV zero xs.length from rfl];unfold d6;rw[if_pos (by simp only[length_append];omega)];rw[take_left' h,<- append_assoc pre zero,drop_left' (by simp [hc,h,hz])]
   simp only[h2];rw[nI hz xs (pre++cs) (k+1) (by simp [h,hc,Nat.add_mul])]
   cases dG z xs with
   | none=>rfl
   | some rs=>simp [yP]
theorem mP {z:Nat} {zero:List AV} {len:Nat} {pl:List Nat} {xs:List AV} (hz:zero.length=z) (hl:xs.length=len) (hp:pl=List.range' 0 len) :
  fY z zero len pl xs=(dG z xs).map fun rs=>.sl .full z rs:=by
 subst hl;subst hp;unfold fY;rw[show aV zero xs.length=[]++aV zero xs.length from rfl,nI hz xs [] 0 (by simp)];cases h:dG z xs with
 | none=>rfl
 | some rs =>
  have:=pF h
  simp only[Option.map_some,nil_append];rw[<- this.1,lD z rs this.2]
@[go_sem] theorem SJ (c0 x0:AV):fY 1 [c0] 1 [0] [x0]=(dG 1 [x0]).map fun rs=>.sl .full 1 rs:=mP rfl rfl rfl
@[go_sem] theorem SI (c0 c1 c2 x0:AV):fY 3 [c0,c1,c2] 1 [0] [x0]=(dG 3 [x0]).map fun rs=>.sl .full 3 rs:=mP rfl rfl rfl
@[go_sem] theorem SH (c0 c1 c2 x0 x1:AV):fY 3 [c0,c1,c2] 2 [0,1] [x0,x1]=(dG 3 [x0,x1]).map fun rs=>.sl .full 3 rs:=mP rfl rfl rfl
theorem bD {bytes n:Nat} (h1:bytes<=100000) (h2:n<=1000000000):cK bytes n=true:=by
 have:n*bytes<=1000000000*100000:=Nat.mul_le_mul h2 h1
 simp only[cK,decide_eq_true_eq];omega
theorem bH (md o:Own) (hm:md≠.no) (z bytes:Nat) (hz:0 < z) (x y:LL) :
  nS false z bytes (.sl md z x) (.sl o z y)=if cK bytes (x.length+y.length)=true then some (.sl .own z (x++y)) else none:=by
 simp [nS,iX,cK,hm,hz]
def DD (cells:Option (List AV)) (pl:List (Nat × Nat)) (xs:List AV):Option (List AV):=cells.bind fun c=>dJ c pl xs
@[go_sem] theorem NP (cells:List AV):dJ cells [] []=some cells:=(rfl)
@[go_sem] theorem LO (cells:List AV) (off n:Nat) (pl:List (Nat × Nat)) (x:AV) (xs:List AV):dJ cells ((off,n) :: pl) (x :: xs)=DD ((bB n x).bind fun cs=>d6 off cs cells) pl xs:=by
 simp only[dJ,DD]
 cases bB n x with
 | none=>rfl
 | some cs=>simp only[Option.bind_some];cases d6 off cs cells<;>rfl
@[go_sem] theorem LN (c:List AV) (pl:List (Nat × Nat)) (xs:List AV):DD (some c) pl xs=dJ c pl xs:=(rfl)
def UX (cells:Option (List AV)) (pl:List (Nat × Nat)) (xs:List AV):Option (List AV):=cells.bind fun c=>pW c pl xs
def fP:Nat->List AV->List AV->Option (List AV)
 | _,[],cells=>some cells
 | _,_ :: _,[]=>none
 | 0,c :: cs,_ :: r=>(fP 0 cs r).map fun t=>c :: t
 | n+1,c :: cs,x :: r=>(fP n (c :: cs) r).map fun t=>x :: t
theorem vZ:∀ (n:Nat) (cs cells:List AV),cs≠[]->d6 n cs cells=fP n cs cells
 | _,[],_,h=>absurd rfl h
 | n,c :: cs,[],_=>by simp [d6,fP]
 | 0,[c],x :: r,_=>by simp [d6,fP]
 | 0,c :: c2 :: cs,x :: r,_=>by
  have:=vZ 0 (c2 :: cs) r (by simp)
  simp only[fP];rw[<- this];unfold d6;simp only[length_cons,Nat.zero_add,take_zero,nil_append,Nat.add_le_add_iff_right]
  split<;>simp
 | n+1,c :: cs,x :: r,_=>by
  have:=vZ n (c :: cs) r (by simp)
  simp only[fP];rw[<- this];unfold d6;simp only[length_cons];by_cases h:n+(cs.length+1)<=r.length
  ·rw[if_pos h,if_pos (by omega)]
   simp [show n+1+(cs.length+1)=n+(cs.length+1)+1 by omega]
  ·rw[if_neg h,if_neg (by omega)];rfl
@[go_sem] theorem OY (n:Nat) (c:AV) (cs cells:List AV):d6 n (c :: cs) cells=fP n (c :: cs) cells:=vZ _ _ _ (by simp)
@[go_sem] theorem tZ (n:Nat) (cells:List AV):fP n [] cells=some cells:=by cases n<;>simp [fP]
@[go_sem] theorem B7 (c x:AV) (cs r:List AV):fP 0 (c :: cs) (x :: r)=(fP 0 cs r).map fun t=>c :: t:=(rfl)
@[go_sem] theorem vY (n:Nat) (c x:AV) (cs r:List AV):fP (n+1) (c :: cs) (x :: r)=(fP n (c :: cs) r).map fun t=>x :: t:=(rfl)
def DH:Own->Own
 | .own=>.no
 | o=>o
@[go_sem] theorem QS:DH .own=.no:=(rfl)
@[go_sem] theorem S5:DH .no=.no:=(rfl)
@[go_sem] theorem NS:DH .full=.full:=(rfl)
theorem HI (o:Own) (z:Nat) (x:LL):aH (.sl o z x)=.sl (DH o) z x:=by cases o<;>rfl
def mdK (o:Own):Nat->Own
 | 0=>o
 | _+1=>.own
theorem fH {n:Int} (h:0<=n):rD n=some n.toNat:=by simp [rD,h]
@[go_sem] theorem RY (md:Own) (z:Nat) (x:LL) (k:IntKind) (n:Int) (h:0<=n) (h2:n<=(x.length:Int)):b8 false z (.sl md z x) none (some (.int k n))=some (.sl .no z (x.take n.toNat)):=by
 simp only[b8,cR,fH h];rw[if_pos ⟨by omega,by omega,.inl trivial⟩];simp
@[go_sem] theorem RX (md:Own) (z:Nat) (x:LL) (k:IntKind) (n:Int) (h:0<=n) (h2:n<=(x.length:Int)):b8 false z (.sl md z x) (some (.int k n)) none=some (.sl .no z (x.drop n.toNat)):=by
 simp only[b8,cR,fH h];rw[if_pos ⟨by omega,by omega,.inl trivial⟩];simp
@[go_sem] theorem FN (z:Nat) (x:List UInt8) (k:IntKind) (n:Int) (h:0<=n) (h2:n<=(x.length:Int)):b8 true z (.str x) none (some (.int k n))=some (.str (x.take n.toNat)):=by
 simp only[b8,cR,fH h];rw[if_pos ⟨by omega,by omega⟩];simp
@[go_sem] theorem FM (z:Nat) (x:List UInt8) (k:IntKind) (n:Int) (h:0<=n) (h2:n<=(x.length:Int)):b8 true z (.str x) (some (.int k n)) none=some (.str (x.drop n.toNat)):=by
 simp only[b8,cR,fH h];rw[if_pos ⟨by omega,by omega⟩];simp
@[go_sem] theorem qW (z:Nat) (x:List UInt8) (k k':IntKind) (n j:Int) (h:0<=n) (h1:n<=j) (h2:j<=(x.length:Int)):b8 true z (.str x) (some (.int k n)) (some (.int k' j))=some (.str ((x.take j.toNat).drop n.toNat)):=by
 simp only[b8,cR,fH h,fH (Int.le_trans h h1)];rw[if_pos ⟨by omega,by omega⟩]
theorem w64 {n:Int} (h1:-9223372036854775808<=n) (h2:n<=9223372036854775807):IntKind.i64.wrap n=n:=IntWalk.i64_in n ⟨h1,h2⟩
end Go.Av
namespace Go.Av
variable [Gtab]
open Go.ChangeShapes Go.WideShapes Go.ChangeAt Go.RowKit
section
variable {H:Type} {enc:TypeId × Value->H} {P:Program}
theorem jU {W W':World} {sp:Nat->Bool} (hl:laidOutB P=true) (hb:Below W.heap.size W W') :
  ∀ {ts:List TypeId} {vs:List Value} {ds:List (DataW H)} {ps:List MemPlace},(ts.all fun t=>P.readableRec t && decide (t < P.types.size))=true ->
  DataW.TrodAll enc P W 0 (fun _=>true) true ts vs ds ps->(∀ p∈ps,p.block < W.heap.size)->(∀ p∈ps,sp p.block=true)->DataW.TrodAll enc P W' 0 sp true ts vs ds ps
 | [],_,_,_,_,h,_,_=>by
  obtain⟨rfl,rfl,rfl⟩:=trodAll_nil h;exact trodAll_mk0
 | t :: ts,_,_,_,ha,h,hlt,hs=>by
  obtain⟨v,vs,d,ds,p,q,rfl,rfl,rfl,h1,h2⟩:=trodAll_cons h;simp only[all_cons,Bool.and_eq_true,decide_eq_true_eq] at ha;refine⟨p,q,?_,?_,rfl⟩
  ·exact WideElems.Trod_stays hl ha.1.1 ha.1.2 h1 (fun x hx=>hb.same (hlt x (by simp [hx]))) (fun x hx=>hs x (by simp [hx]))
  ·exact jU hl hb ha.2 h2 (fun x hx=>hlt x (by simp [hx])) (fun x hx=>hs x (by simp [hx]))
theorem v5 {f:Func} {s:ChangeSpec} {apart fresh handsOn again:Bool} {W W':World} {args:Array Value} {v:Value} {ds gs:List (DataW H)} {before pa pv:List MemPlace}
  (hW:DataW.Whole enc P f.params.toList s.vars apart W args.toList ds gs before)
  (hres:∀ (b:Nat) (sp:Nat->Bool) (hd:Bool),DataW.TrodAll enc P W' b sp hd f.resultTypes.toList (v.resultList f.resultTypes.size) (s.fn H (ds++gs)).results [])
  (hargs:∀ sp:Nat->Bool,(∀ p∈before,sp p.block=true)->DataW.TrodAll enc P W' 0 sp true f.params.toList args.toList (s.fn H (ds++gs)).args pa)
  (hvars:∀ sp:Nat->Bool,(∀ p∈before,sp p.block=true)->DataW.TrodVars enc P W' sp s.vars (s.fn H (ds++gs)).vars pv)
  (hps:before=pa++pv) (hb:Below W.heap.size W W')
  (hok:∀ (j:Nat) (t:TypeId) (r:Value),f.resultTypes[j]?=some t->(v.resultList f.resultTypes.size)[j]?=some r->Value.okWide P W' .any 0 t r) :
  s.post enc P f apart fresh handsOn again W args v W':=by
 have hold:∀ p∈before,(fun b=>decide (b < W.heap.size)) p.block=true:=fun p hp=>by simpa using hW.lt p hp
 refine⟨ds,gs,before,[],pa,pv,hW,hres _ _ _,hargs _ hold,hvars _ hold,World.keptBut_mono (fun p hp=>⟨hp,?_⟩) (hb.frame (·∈before)),fun _=>?_⟩
 ·rw[hps,mem_append] at hp
  exact Or.inr hp
 ·have hW2:=hW
  obtain⟨_,_,_,_,_,hz,hn⟩:=hW;refine⟨hok,_,_,([]++pa)++pv,⟨[]++pa,pv,trodAll_append (hargs _ (fun _ _=>rfl)) (hres _ _ _),hvars _ (fun _ _=>rfl),rfl,?_,?_⟩,?_⟩
  ·intro b off hp
   have hp':MemPlace.cell b off∈before:=by rw[hps];simpa using hp
   rw[hb.frozen (p:=⟨b,off,none⟩) (hW2.lt _ hp')];exact hz b off hp'
  ·intro ha
   have:=hn ha
   rw[hps] at this;simpa using this
  ·intro p hp _
   rw[hps];simpa using hp
theorem CV {f:Func} {n:Nat} {s:ChangeSpec} {W:World} {args:Array Value} {ds gs:List (DataW H)} {before:List MemPlace} {apart fresh handsOn again:Bool} {tb:TypeId} {G:aL} {avs:List AV}
  (hW:DataW.Whole enc P f.params.toList s.vars apart W args.toList ds gs before) (hv:s.vars=[]) (hl:laidOutB P=true)
  (hpar:(f.params.toList.all fun t=>P.readableRec t && decide (t < P.types.size))=true) (hrt:f.resultTypes=#[tb]) (htb:P.underlying tb=some .bool)
  (hG:gM P G) (hrep:aI (aK (cx0 (fun _=>0) (fun _=>0) (fun b _=>b < W.heap.size) W 0) aN) avs args.toList)
  (hg:G n avs []=some (.bool true,[])) (hfn:s.fn H ds={ results:=[.lit (.bool true)],args:=ds }) (hreal:vB P n) (hgl:m8 (fun b _=>b < W.heap.size) W) :
  Calls P n args W fun e W'=>∃ v,e=.returned v/\s.post enc P f apart fresh handsOn again W args v W':=by
 have hsem:gF P n avs [] (.bool true) []:=by
  rcases hG _ _ _ _ _ hg with h | hx
  ·exact h.2
  ·intro kd β bs S0 O0 w vs he hr
   obtain⟨v,w',_,_,_,hrn,_⟩:=hx kd β bs S0 O0 w vs he hr;rw[eN hreal] at hrn;cases hrn
 have hS:=hsem (fun _=>.stab) (fun _=>0) (fun _=>0) (fun b _=>b < W.heap.size) (fun _=>none) W args (LP (fun b n hb=>hb) hgl) hrep;refine hS.mono ?_
 rintro e W' ⟨v,kd',β',bs',rfl,ha⟩
 have hr:=ha.rep;have hv':v=.bool true:=by simpa [aK,aJ,aD] using hr
 subst hv';have hb:Below W.heap.size W W':=⟨ha.os,ha.tape,ha.output,ha.size,fun k hk=>ha.frame k hk (fun i hi=>by simp at hi) rfl⟩
 refine⟨_,rfl,?_⟩;have hW2:=hW;obtain⟨p,q,hA,hV,hpq,_,_⟩:=hW2;rw[hv] at hV;obtain⟨rfl,rfl⟩:=trodVars_none hV;rw[append_nil] at hpq;subst hpq;have e1:(s.fn H (ds++[])).results=[.lit (.bool true)]:=by rw[append_nil,hfn]
 have e2:(s.fn H (ds++[])).args=ds:=by rw[append_nil,hfn]
 have e3:(s.fn H (ds++[])).vars=[]:=by rw[append_nil,hfn]
 have hsz:f.resultTypes.size=1:=by rw[hrt];rfl
 refine v5 (pa:=before) (pv:=[]) hW ?_ ?_ ?_ (by simp) hb ?_
 ·intro b sp hd
  rw[e1,hsz,hrt];exact trodAll_cons_mk (shut_bool htb true) trodAll_mk0
 ·intro sp hsp
  rw[e2];exact jU hl hb hpar hA (fun p hp=>hW.lt p hp) hsp
 ·intro sp _
  rw[hv,e3];exact rfl
 ·exact ok_one hrt rfl (okWide_bool_mk htb true)
variable {w:World} {base:Nat} {spare:Nat->Bool} {held:Bool}
theorem kZ {a:Addr} {u:Value} (h:w.cell? a=some u):a.spot=none:=by
 unfold World.cell? at h
 split at h
 ·split at h
  ·cases h
  ·rename_i hs;simpa using hs
 ·cases h
theorem tY {S:Nat->Nat->Prop} {k:IntKind} (b:Nat):∀ (l:List Int) (o:Nat),(∀ i,i < l.length->S b (o+i)/\w.cell? ⟨b,o+i,none⟩=some (.int k (l.getD i 0)))->dK S w 1 (l.map fun x=>[.int k x]) b o
 | [],o,_=>by simp [dK]
 | x :: l,o,h=>by
  have h0:=h 0 (by simp);simp only[map_cons,dK,cW,length_cons,length_nil,Nat.zero_add,and_true,true_and];refine⟨⟨h0.1,_,h0.2,rfl⟩,?_⟩;exact tY b l (o+1) fun i hi=>by
   have:=h (i+1) (by simp;omega)
   rw[show o+1+i=o+(i+1) by omega];simpa using this
theorem B2 {r:Reach} {b0 n:Nat} {t e:TypeId} {k:IntKind} {v:Value} {d:DataW H} {ps:List MemPlace} {ow:Value->Nat->Nat->Prop} (ht:P.underlying t=some (.slice e)) (he:P.underlying e=some (.int k)) (hc:P.cellsOf e=1)
  (hval:Value.okWide P w r b0 t v) (hd:DataW.Trod enc P w base spare held t v d ps) :
  ∃ l:List Int,aK (cx0 (fun _=>0) (fun _=>0) (fun b _=>b < w.heap.size) w n) ow (.sl .no 1 (l.map fun x=>[.int k x])) v:=by
 obtain⟨a0,len,cap,rfl⟩:=okWide_slice ht hval;obtain⟨fuel,hf⟩:=hd;rcases open_ints ht he hc hf with ⟨hcs,hx⟩ | ⟨a,len',cap',zs,hcs,_,hl,hm,hz,hx,hcell,hwz⟩
 ·simp [Value.cells] at hcs
  obtain⟨rfl,rfl,rfl⟩:=hcs;refine⟨[],?_⟩;simp only[aK,aJ,aD];exact⟨none,0,rfl,Nat.le_refl _,by simp,by simp,.inl rfl⟩
 ·simp [Value.cells] at hcs
  obtain⟨rfl,rfl,rfl⟩:=hcs;have hlen:len<=zs.length:=by rw[hz];split<;>omega
  refine⟨zs.take len,?_⟩;simp only[aK,aJ,aD];have hl2:((zs.take len).map fun x=>([.int k x]:List AV)).length=len:=by simp;omega
  refine⟨some a,cap,by rw[hl2],by rw[hl2];omega,by simp,by simp,?_⟩;by_cases h0:len=0
  ·left;subst h0;simp
  ·right
   have c0:=hcell 0 (by omega);have hsp:a.spot=none:=kZ (by simpa [Addr.add] using c0);obtain⟨b,o,sp⟩:=a;simp only at hsp;subst hsp;refine⟨b,o,rfl,tY b _ _ fun i hi=>?_⟩;have hi':i < len:=by simpa [Nat.lt_min] using (show i < (zs.take len).length from hi) |> fun h=>by simp at h;omega
   have ci:=hcell i (by omega);have e1:(⟨b,o,none⟩:Addr).add i=⟨b,o+i,none⟩:=by
    unfold Addr.add;split
    ·rename_i h;subst h;rfl
    ·rfl
   rw[e1] at ci;refine⟨World.block_lt_of_cell? w _ ci,?_⟩;show w.cell? _=_;rw[ci];simp [getD_eq_getElem?_getD,hi']
theorem FY {r:Reach} {b0 n:Nat} {t:TypeId} {k:IntKind} {v:Value} {d:DataW H} {ps:List MemPlace} {ow:Value->Nat->Nat->Prop} (ht:P.underlying t=some (.int k))
  (hval:Value.okWide P w r b0 t v) (hd:DataW.Trod enc P w base spare held t v d ps) :
  ∃ x:Int,(Lit.int k x).wf=true/\aK (cx0 (fun _=>0) (fun _=>0) (fun b _=>b < w.heap.size) w n) ow (.int k x) v:=by
 obtain⟨x,rfl,_,_,hw⟩:=open_int ht hval hd;exact⟨x,hw,by simp [aK,aJ,aD]⟩
end
end Go.Av
namespace Go.Av
variable [Gtab]
open Go.RowKit
section
variable {P:Program}
noncomputable abbrev GN:aL:=Gx (fun _ _ _=>none) (fun _=>none)
def oJ (z:Nat):ACode:=.reg false [] [⟨some 2,.mv,[.c (.sl .full z [])],.none,none,none⟩] []
def HL (z bytes:Nat) (zero:List AV):ACode:=.seq (.reg false [] [
 ⟨some 5,.mks z zero 0 [],[],.none,none,none⟩,
 ⟨some 6,.mv,[.t 0],.none,none,none⟩,
 ⟨some 7,.appS false z bytes,[.t 5,.t 6],.sh,none,none⟩,
 ⟨some 2,.mvo,[.t 7],.none,some 7,none⟩] []) .ret
def yJ (P:Program) (x:Operand):Op->Bool
 | .binOp .eql t y (.const (.slice none 0 0)) _=>(match x,y with | .tmp i,.tmp j=>i == j | _,_=>false) && (match P.underlying t with | some (.slice _)=>true | _=>false)
 | _=>false
def SD (P:Program) (f:FuncId) (z bytes:Nat) (zero:List AV):Bool:=
 match P.funcs[f]? with
 | some fn=>(match fn.body with
  | some (.seq c0 (.seq (.seq (.region _ ops false) (.cond (.tmp 4) x .skip)) rest)) =>
   c7 P fn.ntmps c0 (oJ z) && (match ops.toList with
     | [o3,o4]=>okO P fn.ntmps ops o3 ⟨some 3,.mv,[.t 0],.none,none,none⟩ && o4.dst == some 4 && o4.guard.isNone && yJ P (.tmp 3) o4.op
     | _=>false) && c7 P fn.ntmps x (.seq (oJ z) .ret) && c7 P fn.ntmps rest (HL z bytes zero)
  | _=>false) && decide (8<=fn.ntmps) && eK P fn.results.toList [.tmpD 2] && !(fn.name == "runtime.NumGoroutine")
 | none=>false
def L0 (z:Nat) (l:LL) (sh:LL):AV × List (List AV):=
 match l with
 | []=>(.sl .full z [],sh)
 | r :: l=>(.ss sh.length 0 (l.length+1) z,sh++[(r :: l).flatten])
end
def VP (z bytes:Nat):List AV->LL->Option (AV × LL)
 | [.sl _ z' l],sh=>if z'=z/\cK bytes l.length=true then some (L0 z l sh) else none
 | _,_=>none
end Go.Av
namespace Go.Av
variable [Gtab]
open Go.RowKit
section
variable {P:Program}
theorem After.same0 {sh:LL} {kd:Nat->BK} {β bs:Nat->Nat} {S0:Nat->Nat->Prop} {O0:Nat->Option Nat} {w:World} (h:nP sh kd β bs S0 O0 w) {r:AV} {v:Value} (hr:aK (cx0 β bs (S1 S0 w w kd) w sh.length) aN r v) :
  After S0 O0 β bs w sh sh r v kd β bs w:=by
 obtain⟨⟨e1,e2⟩,e3,e4,e5,_⟩:=h;have hle:Cx.le (cx0 β bs S0 w sh.length) (cx0 β bs (S1 S0 w w kd) w sh.length):=⟨fun b o hS=>⟨.inl hS,rfl⟩,Nat.le_refl _,fun _ _=>rfl,fun _ _=>rfl,fun s hs=>hs.elim⟩
 refine { same:=fun _ _=>⟨rfl,rfl⟩,len:=Nat.le_refl _,shok:=⟨fun i cells hi hd=>?_,e2⟩,rep:=hr,os:=rfl,tape:=rfl,output:=rfl,size:=Nat.le_refl _,frame:=fun _ _ _ _=>rfl,sframe:=fun _ _ _=>rfl,o0:=fun b k hk=>?_,own0:=fun b t k hk=>?_,new:=fun i h1 h2=>by omega,deads:=fun _ h=>h }
 ·obtain⟨f1,f2⟩:=e1 i cells hi hd
  exact⟨f1,f2.mono hle rfl (fun _ _ _ _ _ h=>h)⟩
 ·exact (e4 b k hk).2.2
 ·rcases Nat.lt_or_ge b w.heap.size with hb | hb
  ·exact .inr (e5 b t k hk hb)
  ·exact .inl hb
def ibB (f0:Nat):aL:=fun f args sh=>if f=f0 then (match args with
 | [.str s,.int .u8 c]=>some (.int .i64 (Lib.indexByte s c.toNat.toUInt8),sh)
 | _=>none) else none
theorem AE {f0:FuncId} {fn:Func} (hf:P.funcs[f0]?=some fn) (hname:(fn.name == "runtime.NumGoroutine")=false) (hb:fn.body.isNone=true) (hn:Extern.findNext fn=none)
  (he:Extern.find fn=some Extern.BytealgIndexByte.indexByte):gM P (ibB f0):=by
 intro f args sh r sh' h;unfold ibB at h
 split at h
 ·rename_i hff
  subst hff
  split at h
  ·rename_i s c
   simp only[Option.some.injEq,Prod.mk.injEq] at h;obtain⟨rfl,rfl⟩:=h
   refine .inr ?_
   intro kd β bs S0 O0 w vs hent hargs;obtain⟨xs⟩:=vs;have hl2:=hargs.length;simp at hl2
   match xs,hl2 with
   | [u,v],_ =>
    obtain⟨h1,h2,_⟩:=hargs;obtain⟨b,rfl,rfl⟩:∃ b,u=.string b/\b.data.toList=s:=h1;have h2':v=.int .u8 c:=h2;subst h2';refine⟨.int .i64 (Lib.indexByte b.data.toList c.toNat.toUInt8),w,kd,β,bs,?_,After.same0 hent rfl⟩;rw[run_callFunc_extern hf hname hb hn he]
    have:(#[.string b,.int .u8 c]:Array Value)=⟨[.string b,.int .u8 c]⟩:=rfl
    rw[<- this];show ((Extern.BytealgIndexByte.indexByte #[.string b,.int .u8 c]).run P w).andThen _=_;rw[Lib.run_indexByteString];rfl
  ·cases h
 ·cases h
end
end Go.Av
namespace Go.Av
@[go_sem] theorem U0 {α:Type} (a b:α) (l:List α):(a :: l).set 0 b=b :: l:=(rfl)
@[go_sem] theorem SY {α:Type} (n:Nat):([]:List α).take n=[]:=take_nil
@[go_sem] theorem VC (p:Prop):(p/\False)=False:=and_false p
@[go_sem] theorem U8 (p:Prop):(False/\p)=False:=false_and p
@[go_sem] theorem VA (p:Prop):(p/\True)=p:=and_true p
@[go_sem] theorem UZ (p:Prop):(True/\p)=p:=true_and p
@[go_sem] theorem WJ (p:Prop) [Decidable p]:(decide p=true)=p:=decide_eq_true_eq
@[go_sem] theorem WL {α:Type} [BEq α] [ReflBEq α] (a:α):(a == a)=true:=beq_self_eq_true a
@[go_sem] theorem WK {α:Type} [BEq α] [LawfulBEq α] (a:α):(a != a)=false:=bne_self_eq_false a
@[go_sem] theorem U5 {α β:Type} (f:α->β) (a:α) (l:List α):(a :: l).map f=f a :: l.map f:=(rfl)
@[go_sem] theorem U4 {α β:Type} (f:α->β):([]:List α).map f=[]:=(rfl)
@[go_sem] theorem XB (b:Bool):(b && true)=b:=Bool.and_true b
@[go_sem] theorem W3 (b:Bool):(true && b)=b:=Bool.true_and b
@[go_sem] theorem XC (b:Bool):(b && false)=false:=Bool.and_false b
@[go_sem] theorem W8 (b:Bool):(false && b)=false:=Bool.false_and b
@[go_sem] theorem XD (b:Bool):(b && b)=b:=Bool.and_self b
@[go_sem] theorem VB (p:Prop):(p/\p)=p:=and_self p
@[go_sem] theorem W6 {α:Type} (a b:α):(a≠b)=¬ (a=b):=(rfl)
@[go_sem] theorem W4:(¬ True)=False:=not_true_eq_false
@[go_sem] theorem W5:(¬ False)=True:=not_false_eq_true
@[go_sem] theorem XA (h:Decidable False):@decide False h=false:=decide_false h
@[go_sem] theorem W9 (h:Decidable True):@decide True h=true:=decide_true h
@[go_sem] theorem W7:(false=true)=False:=Bool.false_eq_true
@[go_sem] theorem U3 {α β:Type} (f:α->β) (a:α):(some a).map f=some (f a):=(rfl)
@[go_sem] theorem SZ {α β:Type} (f:α->Option β) (a:α):(some a).bind f=f a:=(rfl)
@[go_sem] theorem U7 {α:Type}:([]:List α).length=0:=(rfl)
@[go_sem] theorem U6 {α:Type} (a:α) (l:List α):(a :: l).length=l.length+1:=(rfl)
@[go_sem] theorem U9 {α:Type} (l:List α):l++[]=l:=append_nil l
@[go_sem] theorem VD {α:Type} (l:List α):[]++l=l:=(rfl)
@[go_sem] theorem VE {α:Type} (a:α) (l m:List α):(a :: l)++m=a :: (l++m):=(rfl)
@[go_sem] theorem SX (n:Nat):((n:Int)).toNat=n:=Int.toNat_natCast n
@[go_sem] theorem e_z (n:Nat):0+n=n:=Nat.zero_add n
@[go_sem] theorem W2 (n:Int):0+n=n:=Int.zero_add n
@[go_sem] theorem U1:(!true)=false:=(rfl)
@[go_sem] theorem U2:(!false)=true:=(rfl)
@[go_sem] theorem WH {n:Int} (h1:-9223372036854775808<=n) (h2:n<=9223372036854775807):IntKind.i64.wrap n=n:=w64 h1 h2
@[go_sem] theorem WI (o:Own) (z:Nat) (x:LL):aH (.sl o z x)=.sl (DH o) z x:=HI o z x
end Go.Av
namespace Go.Av
variable [Gtab]
open Go.RowKit
section
variable {P:Program}
def HK (z bytes:Nat) (zero:List AV):ACode:=.seq (.reg false [] [
 ⟨some 5,.mks z zero 0 [],[],.none,none,none⟩,
 ⟨some 6,.mv,[.t 0],.none,none,none⟩,
 ⟨some 7,.app false z bytes,[.t 5,.t 6],.none,some 5,none⟩,
 ⟨some 2,.mvo,[.t 7],.none,some 7,none⟩] []) .ret
def PD (P:Program) (f:FuncId) (z bytes:Nat) (zero:List AV):Bool:=
 match P.funcs[f]? with
 | some fn=>(match fn.body with
  | some (.seq c0 (.seq (.seq (.region _ ops false) (.cond (.tmp 4) x .skip)) rest)) =>
   c7 P fn.ntmps c0 (oJ z) && (match ops.toList with
     | [o3,o4]=>okO P fn.ntmps ops o3 ⟨some 3,.mv,[.t 0],.none,none,none⟩ && o4.dst == some 4 && o4.guard.isNone && yJ P (.tmp 3) o4.op
     | _=>false) && c7 P fn.ntmps x (.seq (oJ z) .ret) && c7 P fn.ntmps rest (HK z bytes zero)
  | _=>false) && decide (8<=fn.ntmps) && eK P fn.results.toList [.tmp 2] && !(fn.name == "runtime.NumGoroutine")
 | none=>false
end
def VO (z bytes:Nat):List AV->LL->Option (AV × LL)
 | [.sl _ z' l],sh=>if z'=z/\cK bytes l.length=true then some (.sl .no z l,sh) else none
 | _,_=>none
end Go.Av
