/- A part of the frame (Ev19 Ev20 Ev21). No conditions. -/
import Derived.Test.YtmjfblcmbcfkcaaGreatDoorG3Ev14to18
import Derived.Attr
import Derived.IntWalk
import Derived.WalkKit
import Derived.ProofKit
import Derived.OpenShut
import Derived.Below
import Derived.Carry
import Derived.Lib.SmallJoins
open List
set_option linter.unusedSimpArgs false
set_option linter.unusedVariables false
set_option linter.unusedSectionVars false
set_option maxRecDepth 100000
set_option maxHeartbeats 16000000
namespace Go.Av
section
variable {G:aM} {l:List (Nat × AV)} {m:List (Nat × Option (List AV))} {sh:LL}
@[go_sem] theorem zAW {α:Type} (d:α) (t:Nat):aF d [] t=d:=(rfl)
@[go_sem] theorem YE {α:Type} (d:α) (k:Nat) (v:α) (r:List (Nat × α)) (t:Nat):aF d ((k,v) :: r) t=if t=k then v else aF d r t:=(rfl)
@[go_sem] theorem ZP {α:Type} (k:Nat) (v:α):eO [] k v=[(k,v)]:=(rfl)
@[go_sem] theorem XI {α:Type} (k k':Nat) (v v':α) (r:List (Nat × α)):eO ((k',v') :: r) k v=if k=k' then (k,v) :: r else if k < k' then (k,v) :: (k',v') :: r else (k',v') :: eO r k v:=(rfl)
@[go_sem] theorem YH (kill:List Nat):jH kill []=[]:=(rfl)
@[go_sem] theorem VH (kill:List Nat) (k:Nat) (v:AV) (r:List (Nat × AV)):jH kill ((k,v) :: r)=if k∈kill then jH kill r else (k,bY kill v) :: jH kill r:=(rfl)
@[go_sem] theorem YQ {α:Type} (kill:List Nat):iO kill ([]:List (Nat × α))=[]:=(rfl)
@[go_sem] theorem WC {α:Type} (kill:List Nat) (k:Nat) (v:α) (r:List (Nat × α)):iO kill ((k,v) :: r)=if k∈kill then iO kill r else (k,v) :: iO kill r:=(rfl)
@[go_sem] theorem ZS (kill:List Nat):zA kill []=[]:=(rfl)
@[go_sem] theorem XO (kill:List Nat) (k:Nat) (v:AV) (r:List (Nat × AV)):zA kill ((k,v) :: r)=(k,bY kill v) :: zA kill r:=(rfl)
@[go_sem] theorem zDF (k:Nat):t8 k []=[]:=(rfl)
@[go_sem] theorem YZ (k:Nat) (a:AV) (as:List AV):t8 k (a :: as)=(k,a) :: t8 (k+1) as:=(rfl)
attribute [go_sem] reduceCtorEq Nat.not_lt_zero Nat.lt_one_iff mem_cons not_mem_nil or_false or_true or_self false_or true_or if_true if_false
@[go_sem] theorem zCM (k:IntKind) (n:Int):aH (.int k n)=.int k n:=(rfl)
@[go_sem] theorem YS (b:Bool):aH (.bool b)=.bool b:=(rfl)
@[go_sem] theorem zCK (s:List UInt8):aH (.str s)=.str s:=(rfl)
@[go_sem] theorem YR:aH .nilp=.nilp:=(rfl)
@[go_sem] theorem zCL (o i:Nat):aH (.ptr o i)=.ptr o i:=(rfl)
@[go_sem] theorem zCN (x:List AV):aH (.agg x)=.agg x:=(rfl)
@[go_sem] theorem zCJ (x:List AV):aH (.tup x)=.tup x:=(rfl)
@[go_sem] theorem zFM (o i n z:Nat):aH (.ss o i n z)=.ss o i n z:=(rfl)
@[go_sem] theorem zFN (o:Nat):aH (.mp o)=.mp o:=(rfl)
@[go_sem] theorem ZJ (k:IntKind) (n:Int):eW (.int k n)=.int k n:=(rfl)
@[go_sem] theorem XF (b:Bool):eW (.bool b)=.bool b:=(rfl)
@[go_sem] theorem ZI (s:List UInt8):eW (.str s)=.str s:=(rfl)
@[go_sem] theorem ZK (x:List AV):eW (.agg x)=.agg x:=(rfl)
@[go_sem] theorem zDT (o i n z:Nat):eW (.ss o i n z)=.ss o i n z:=(rfl)
@[go_sem] theorem yZ (o:Own) (z:Nat) (x:LL):eW (.sl o z x)=.sl .no z x:=(rfl)
@[go_sem] theorem QP (n:Nat) (x:List AV):cD n (.agg x)=if x.length=n then some x else none:=(rfl)
@[go_sem] theorem QO (k:IntKind) (i:Int):cD 1 (.int k i)=some [.int k i]:=(rfl)
@[go_sem] theorem QL (s:List UInt8):cD 1 (.str s)=some [.str s]:=(rfl)
@[go_sem] theorem QM (z:Nat) (x:LL):cD 1 (.sl .no z x)=some [.sl .no z x]:=(rfl)
@[go_sem] theorem QN (z:Nat) (a:List AV) (x:LL):cD 1 (.sl .full z (a :: x))=some [.sl .no z (a :: x)]:=(rfl)
@[go_sem] theorem QS (n:Nat) (x:List AV):dH n (.agg x)=if x.length=n then some x else none:=(rfl)
@[go_sem] theorem QR (k:IntKind) (i:Int):dH 1 (.int k i)=some [.int k i]:=(rfl)
@[go_sem] theorem QQ (s:List UInt8):dH 1 (.str s)=some [.str s]:=(rfl)
@[go_sem] theorem SO (o:Own) (z:Nat) (x:LL):dH 1 (.sl o z x)=some [.sl .no z x]:=(rfl)
@[go_sem] theorem MY (n:Nat) (x:List AV):dH n (.aggR x)=if x.length=n/\x.all frB=true then some x else none:=(rfl)
@[go_sem] theorem Y1:List.all [] frB=true:=(rfl)
@[go_sem] theorem W2 (x:AV) (y:List AV):List.all (x :: y) frB=(frB x && List.all y frB):=(rfl)
@[go_sem] theorem zFD (k:IntKind) (i:Int):frB (.int k i)=true:=(rfl)
@[go_sem] theorem zBX (z:Nat) (x:LL):frB (.sl .full z x)=true:=(rfl)
@[go_sem] theorem zHJ (o:Nat):frB (.mp o)=true:=(rfl)
@[go_sem] theorem SP (a:Nat):dH 1 (.mp a)=some [.mp a]:=(rfl)
@[go_sem] theorem TZ (a:List Nat) (k:IntKind) (n:Int):bY a (.int k n)=.int k n:=(rfl)
@[go_sem] theorem RW (a:List Nat) (b:Bool):bY a (.bool b)=.bool b:=(rfl)
@[go_sem] theorem TW (a:List Nat) (s:List UInt8):bY a (.str s)=.str s:=(rfl)
@[go_sem] theorem TX (a:List Nat) (o i:Nat):bY a (.ptr o i)=.ptr o i:=(rfl)
@[go_sem] theorem TY (a:List Nat) (o i:Nat):bY a (.loc o i)=if o∈a then .any else .loc o i:=(rfl)
@[go_sem] theorem T2 (a:List Nat) (x:List AV):bY a (.agg x)=.agg x:=(rfl)
@[go_sem] theorem XL (a:List Nat) (o i n z:Nat):bY a (.ss o i n z)=.ss o i n z:=(rfl)
@[go_sem] theorem XN (a:List Nat) (o:Nat):bY a (.mp o)=.mp o:=(rfl)
@[go_sem] theorem XM (a:List Nat) (o:Own) (z:Nat) (x:LL):bY a (.sl o z x)=.sl o z x:=(rfl)
noncomputable def AY (G:aM) (r:Option (AX × AS)) (b:ACode):Option (AX × AS):=match r with
 | some (.norm,σ')=>aC G b σ'
 | r=>r
def nR (id:Nat) (r:Option (AX × AS)):Option (AX × AS):=match r with
 | some (.ex i,σ')=>if i=id then some (.norm,σ') else some (.ex i,σ')
 | r=>r
def DA (kill:List Nat) (r:Option AS):Option (AX × AS):=r.map fun σ'=>(.norm,forget kill σ')
def HM (G:aM) (r:Option AS) (os:List AOper):Option AS:=r.bind (cY G os)
noncomputable def SN (G:aM) (v:AV) (a b:ACode) (σ:AS):Option (AX × AS):=match v with
 | .bool t=>if t then aC G a σ else aC G b σ
 | _=>none
@[go_sem] theorem zIE (σ:AS):aC G .skip σ=some (.norm,σ):=(rfl)
@[go_sem] theorem zIY (σ:AS):aC G .ret σ=some (.ret,σ):=(rfl)
@[go_sem] theorem zIH (id:Nat) (σ:AS):aC G (.exit id) σ=some (.ex id,σ):=(rfl)
@[go_sem] theorem zIX (a b:ACode) (σ:AS):aC G (.seq a b) σ=AY G (aC G a σ) b:=(rfl)
@[go_sem] theorem zGH (id:Nat) (a:ACode) (σ:AS):aC G (.block id a) σ=nR id (aC G a σ):=(rfl)
@[go_sem] theorem zIG (d:Bool) (ops:List AOper) (kill:List Nat) (σ:AS):aC G (.reg d [] ops kill) σ=DA kill (cY G ops σ):=by
 show (cY G ops (scrub [] σ)).map _=_;rw[HH];rfl
@[go_sem] theorem zIF (d:Bool) (a:Nat) (al:List Nat) (ops:List AOper) (kill:List Nat):aC G (.reg d (a :: al) ops kill) (ST l m sh)=DA kill (cY G ops (ST (zA (a :: al) l) (iO (a :: al) m) sh)):=by
 show (cY G ops (scrub (a :: al) _)).map _=_;rw[JM];rfl
@[go_sem] theorem zII (c:AR) (a b:ACode):aC G (.cond c a b) (ST l m sh)=SN G (ev (aF .any l) c) a b (ST l m sh):=(rfl)
@[go_sem] theorem WL (t:Bool) (a b:ACode) (σ:AS):SN G (.bool t) a b σ=if t then aC G a σ else aC G b σ:=(rfl)
@[go_sem] theorem XJ (σ:AS) (b:ACode):AY G (some (.norm,σ)) b=aC G b σ:=(rfl)
@[go_sem] theorem zDY (i:Nat) (σ:AS) (b:ACode):AY G (some (.ex i,σ)) b=some (.ex i,σ):=(rfl)
@[go_sem] theorem ZQ (σ:AS) (b:ACode):AY G (some (.ret,σ)) b=some (.ret,σ):=(rfl)
@[go_sem] theorem XK (b:ACode):AY G none b=none:=(rfl)
@[go_sem] theorem ZR (c:Prop) [Decidable c] (x y:Option (AX × AS)) (b:ACode):AY G (if c then x else y) b=if c then AY G x b else AY G y b:=by split<;>rfl
@[go_sem] theorem SU (id:Nat) (σ:AS):nR id (some (.norm,σ))=some (.norm,σ):=(rfl)
@[go_sem] theorem WW (id:Nat) (σ:AS):nR id (some (.ret,σ))=some (.ret,σ):=(rfl)
@[go_sem] theorem YY (id i:Nat) (σ:AS):nR id (some (.ex i,σ))=if i=id then some (.norm,σ) else some (.ex i,σ):=(rfl)
@[go_sem] theorem SV (id:Nat):nR id none=none:=(rfl)
@[go_sem] theorem WX (id:Nat) (c:Prop) [Decidable c] (x y:Option (AX × AS)):nR id (if c then x else y)=if c then nR id x else nR id y:=by split<;>rfl
@[go_sem] theorem X5 (kill:List Nat):DA kill (some (ST l m sh))=some (.norm,ST (jH kill l) (iO kill m) sh):=by
 show some (AX.norm,forget kill (ST l m sh))=_;rw[sU]
@[go_sem] theorem X6 (kill:List Nat):DA kill none=none:=(rfl)
@[go_sem] theorem Z1 (kill:List Nat) (c:Prop) [Decidable c] (x y:Option AS):DA kill (if c then x else y)=if c then DA kill x else DA kill y:=by split<;>rfl
@[go_sem] theorem ZU (σ:AS):cY G [] σ=some σ:=(rfl)
@[go_sem] theorem XR (o:AOper) (os:List AOper) (σ:AS):cY G (o :: os) σ=HM G (cG G o σ) os:=(rfl)
@[go_sem] theorem XP (σ:AS) (os:List AOper):HM G (some σ) os=cY G os σ:=(rfl)
@[go_sem] theorem XQ (os:List AOper):HM G none os=none:=(rfl)
@[go_sem] theorem ZT (c:Prop) [Decidable c] (x y:Option AS) (os:List AOper):HM G (if c then x else y) os=if c then HM G x os else HM G y os:=by split<;>rfl
noncomputable def zAV (G:aM) (kill:List Nat) (a:ACode) (r:Option (AX × AS)):Option (AX × AS):=match r with
 | some (.norm,σ')=>aC G (.loop kill a) σ'
 | r=>r
theorem W3 (kill:List Nat) (a:ACode):aC G (.loop kill a) (ST l m sh)=zAV G kill a (aC G a (ST (jH kill l) (iO kill m) sh)):=by
 rw[<- sU];show vX _ _=_;rw[@vW I2];rfl
def opX (G:aM) (dst:Option Nat) (k:AK) (args:List AR) (ml:ML) (dem:Option Nat) (σ:AS):Option AS:=
 match kf G (dst.getD 0) ml k (args.map (ev σ.fr)) (rdm σ ml) with
 | some (v,m)=>some (put (dE (wrm σ m ml) dem) dst v)
 | none=>none
def zS (G:aM) (g:AV) (want:Bool) (dst:Option Nat) (k:AK) (args:List AR) (ml:ML) (dem:Option Nat) (σ:AS):Option AS:=
 match g with
 | .bool b=>if b=want then opX G dst k args ml dem σ else some (put σ dst .undef)
 | .undef=>some (put σ dst .undef)
 | _=>none
@[go_sem] theorem TK (dst:Option Nat) (k:AK) (args:List AR) (ml:ML) (dem:Option Nat) (σ:AS):cG G ⟨dst,k,args,ml,dem,none⟩ σ=opX G dst k args ml dem σ:=(rfl)
@[go_sem] theorem TL (dst:Option Nat) (k:AK) (args:List AR) (ml:ML) (dem:Option Nat) (s:Nat) (b:Bool):cG G ⟨dst,k,args,ml,dem,some (s,b)⟩ (ST l m sh)=zS G (aF .any l s) b dst k args ml dem (ST l m sh):=by
 unfold cG zS;simp only[eT,S4]
 cases aF AV.any l s with
 | bool c=>cases c<;>cases b<;>rfl
 | _=>rfl
@[go_sem] theorem SI (c want:Bool) (dst:Option Nat) (k:AK) (args:List AR) (ml:ML) (dem:Option Nat) (σ:AS):zS G (.bool c) want dst k args ml dem σ=if c=want then opX G dst k args ml dem σ else some (put σ dst .undef):=(rfl)
@[go_sem] theorem P0 (want:Bool) (dst:Option Nat) (k:AK) (args:List AR) (ml:ML) (dem:Option Nat) (σ:AS):zS G .undef want dst k args ml dem σ=some (put σ dst .undef):=(rfl)
attribute [go_sem] gS J1
@[go_sem] theorem ev_t (f:Nat->AV) (s:Nat):ev f (.t s)=f s:=(rfl)
@[go_sem] theorem ev_c (f:Nat->AV) (a:AV):ev f (.c a)=a:=(rfl)
@[go_sem] theorem zIM (d:Nat) (x:AR):opX G (some d) .mv [x] .none none (ST l m sh)=some (ST (eO l d (aH (ev (aF .any l) x))) m sh):=by
 show some (put (ST l m sh) (some d) _)=_;rw[gS];rfl
@[go_sem] theorem zGN (d s:Nat):opX G (some d) .mvo [.t s] .none (some s) (ST l m sh)=some (ST (eO (eO l s (aH (aF .any l s))) d (aF .any l s)) m sh):=by
 show some (put (dE (ST l m sh) (some s)) (some d) _)=_;rw[z9,gS];rfl
def fH (d:Nat) (l:List (Nat × AV)) (m:List (Nat × Option (List AV))) (sh:LL) (v:Option AV):Option AS:=v.map fun v=>ST (eO l d v) m sh
@[go_sem] theorem XY (d:Nat) (v:AV):fH d l m sh (some v)=some (ST (eO l d v) m sh):=(rfl)
@[go_sem] theorem XZ (d:Nat):fH d l m sh none=none:=(rfl)
@[go_sem] theorem Z0 (d:Nat) (c:Prop) [Decidable c] (x y:Option AV):fH d l m sh (if c then x else y)=if c then fH d l m sh x else fH d l m sh y:=by split<;>rfl
theorem cW {d:Nat} {k:AK} {args:List AR} {r:Option AV} (h:kf G d .none k (args.map (ev (aF .any l))) (none,[])=r.map fun v=>(v,(none,[]))):opX G (some d) k args .none none (ST l m sh)=fH d l m sh r:=by
 unfold opX;have h':kf G ((some d).getD 0) .none k (args.map (ev (ST l m sh).fr)) (rdm (ST l m sh) .none)=r.map fun v=>(v,(none,[])):=h
 rw[h']
 cases r with
 | none=>rfl
 | some v =>
  show some (put (ST l m sh) (some d) v)=_;rw[gS];rfl
def R5:AV->AV->AV->Option AV
 | .bool c,a,b=>some (aH (if c then a else b))
 | _,_,_=>none
@[go_sem] theorem UD (c:Bool) (a b:AV):R5 (.bool c) a b=some (if c then aH a else aH b):=by cases c<;>rfl
@[go_sem] theorem zEH (d:Nat) (c x y:AR):opX G (some d) .pick [c,x,y] .none none (ST l m sh)=fH d l m sh (R5 (ev (aF .any l) c) (ev (aF .any l) x) (ev (aF .any l) y)):=by
 apply cW;simp only[map_cons,map_nil,kf]
 cases ev (aF AV.any l) c<;>rfl
@[go_sem] theorem zHB (d:Nat) (op:BinOp) (x y:AR):opX G (some d) (.bin op) [x,y] .none none (ST l m sh)=fH d l m sh (eU op (ev (aF .any l) x) (ev (aF .any l) y)):=by
 apply cW;simp only[map_cons,map_nil,kf,kf0]
def beqA (ne:Bool):AV->AV->Option AV
 | .bool x,.bool y=>some (.bool (if ne then x != y else x == y))
 | _,_=>none
def unA:UnOp->AV->Option AV
 | .neg,.int k n=>some (.int k (k.wrap (0 - n)))
 | .not,.bool b=>some (.bool !b)
 | _,_=>none
def TV (ne:Bool) (ks:List Nat):AV->AV->Option AV
 | .agg x,.agg y=>(eqL ks x y).map fun b=>.bool (if ne then !b else b)
 | _,_=>none
@[go_sem] theorem zDZ (ks:List Nat) (x y:List AV):TV true ks (.agg x) (.agg y)=(eqL ks x y).map fun b=>.bool !b:=(rfl)
@[go_sem] theorem zFH:eqL [] [] []=some true:=(rfl)
@[go_sem] theorem zFI (ks:List Nat) (k:IntKind) (a b:Int) (x y:List AV):eqL (0 :: ks) (.int k a :: x) (.int k b :: y)=(eqL ks x y).map fun r=>decide (a=b) && r:=by
 simp only[eqL,if_true];rfl
@[go_sem] theorem zFG (ks:List Nat) (a b:List UInt8) (x y:List AV):eqL (2 :: ks) (.str a :: x) (.str b :: y)=(eqL ks x y).map fun r=>(a == b) && r:=(rfl)
@[go_sem] theorem zGM (d:Nat) (ne:Bool) (ks:List Nat) (x y:AR):opX G (some d) (.seq ne ks) [x,y] .none none (ST l m sh)=fH d l m sh (TV ne ks (ev (aF .any l) x) (ev (aF .any l) y)):=by
 apply cW;simp only[map_cons,map_nil,kf];cases hx:ev (aF AV.any l) x<;>cases hy:ev (aF AV.any l) y<;>try rfl
 simp only[kf0,TV,Option.map_map];rfl
@[go_sem] theorem zDS (b:Bool):unA .not (.bool b)=some (.bool !b):=(rfl)
@[go_sem] theorem zIK (d:Nat) (op:UnOp) (x:AR):opX G (some d) (.un op) [x] .none none (ST l m sh)=fH d l m sh (unA op (ev (aF .any l) x)):=by
 apply cW;simp only[map_cons,map_nil,kf]
 cases op<;>cases ev (aF AV.any l) x<;>rfl
def lenA:AV->Option AV
 | .sl _ _ x=>some (.int .i64 (x.length:Int))
 | .str s=>some (.int .i64 (s.length:Int))
 | _=>none
def BS (str:Bool) (v:AV):Option AV:=match str,v with
 | false,.sl _ _ x=>some (.int .i64 (x.length:Int))
 | false,.ss _ _ n _=>some (.int .i64 (n:Int))
 | true,.str s=>some (.int .i64 (s.length:Int))
 | _,_=>none
@[go_sem] theorem zBD (o i n z:Nat):BS false (.ss o i n z)=some (.int .i64 (n:Int)):=(rfl)
@[go_sem] theorem zBE (o:Own) (z:Nat) (x:LL):BS false (.sl o z x)=some (.int .i64 (x.length:Int)):=(rfl)
@[go_sem] theorem YF (s:List UInt8):BS true (.str s)=some (.int .i64 (s.length:Int)):=(rfl)
@[go_sem] theorem zGT (d:Nat) (b:Bool) (x:AR):opX G (some d) (.len b) [x] .none none (ST l m sh)=fH d l m sh (BS b (ev (aF .any l) x)):=by
 apply cW;simp only[map_cons,map_nil,kf]
 cases b<;>cases ev (aF AV.any l) x<;>rfl
def mmA (b:Bool):AV->AV->Option AV
 | .int k x,.int k' y=>if k=k' then some (.int k (if b then (if x < y then y else x) else (if y < x then y else x))) else none
 | _,_=>none
@[go_sem] theorem zEQ (k:IntKind) (x y:Int):mmA true (.int k x) (.int k y)=some (.int k (max x y)):=by
 simp only[mmA,if_true,Option.some.injEq,AV.int.injEq,true_and];split<;>omega
@[go_sem] theorem zEP (k:IntKind) (x y:Int):mmA false (.int k x) (.int k y)=some (.int k (min x y)):=by
 simp only[mmA,if_true,Bool.false_eq_true,if_false,Option.some.injEq,AV.int.injEq,true_and];split<;>omega
@[go_sem] theorem zIN (d:Nat) (b:Bool) (x y:AR):opX G (some d) (.mm b) [x,y] .none none (ST l m sh)=fH d l m sh (mmA b (ev (aF .any l) x) (ev (aF .any l) y)):=by
 apply cW;simp only[map_cons,map_nil,kf];cases hx:ev (aF AV.any l) x<;>cases hy:ev (aF AV.any l) y<;>try rfl
 rename_i k n k' n';simp only[kf0,mmA]
 split<;>rfl
def R9:AV->Option AV
 | .ptr a b=>some (.ptr a b)
 | .loc a b=>some (.loc a b)
 | .ip x=>some (.ip x)
 | _=>none
@[go_sem] theorem YB (a b:Nat):R9 (.ptr a b)=some (.ptr a b):=(rfl)
@[go_sem] theorem zEI (d:Nat) (x:AR):opX G (some d) .nilc [x] .none none (ST l m sh)=fH d l m sh (R9 (ev (aF .any l) x)):=by
 apply cW;simp only[map_cons,map_nil,kf]
 cases ev (aF AV.any l) x<;>rfl
def faA (off:Nat):AV->Option AV
 | .loc s o=>some (.loc s (o+off))
 | .ptr i o=>some (.ptr i (o+off))
 | .ip x=>some (.ip (x.drop off))
 | _=>none
@[go_sem] theorem zFF (off s o:Nat):faA off (.loc s o)=some (.loc s (o+off)):=(rfl)
@[go_sem] theorem zFE (off s o:Nat):faA off (.ptr s o)=some (.ptr s (o+off)):=(rfl)
@[go_sem] theorem zHK (off:Nat) (x:List AV):faA off (.ip x)=some (.ip (x.drop off)):=(rfl)
@[go_sem] theorem zIQ (d off:Nat) (x:AR):opX G (some d) (.fa off) [x] .none none (ST l m sh)=fH d l m sh (faA off (ev (aF .any l) x)):=by
 apply cW;simp only[map_cons,map_nil,kf]
 cases ev (aF AV.any l) x<;>rfl
def fldA (agg:Bool) (off n:Nat):AV->Option AV
 | .agg x=>fU agg off n x
 | _=>none
def iaK (z:Nat):AV->AV->Option AV
 | .sl _ z' x,.int _ i=>if z'=z/\0<=i then (x[i.toNat]?).map .ip else none
 | .ss o off n z',.int _ i=>if z'=z/\0<=i/\i < n then some (.ptr o (off+i.toNat*z)) else none
 | _,_=>none
@[go_sem] theorem zHH (z o off n:Nat) (k:IntKind) (i:Int):iaK z (.ss o off n z) (.int k i)=if 0<=i/\i < n then some (.ptr o (off+i.toNat*z)) else none:=by simp [iaK]
@[go_sem] theorem zHI (z:Nat) (o:Own) (x:LL) (k:IntKind) (i:Int):iaK z (.sl o z x) (.int k i)=if 0<=i then (x[i.toNat]?).map .ip else none:=by simp [iaK]
@[go_sem] theorem zIP (d z:Nat) (x y:AR):opX G (some d) (.ia z) [x,y] .none none (ST l m sh)=fH d l m sh (iaK z (ev (aF .any l) x) (ev (aF .any l) y)):=by
 apply cW;simp only[map_cons,map_nil,kf];cases hx:ev (aF AV.any l) x<;>cases hy:ev (aF AV.any l) y<;>try rfl
 all_goals
  simp only[kf0,iaK];split
  ·first | rfl | (simp only[Option.map_map];rfl)
  ·rfl
def VX (z len:Nat):AV->AV->Option AV
 | a,.int _ i=>if 0<=i/\i < len then
   (match a with
   | .loc s o=>some (.loc s (o+i.toNat*z))
   | .ptr p o=>some (.ptr p (o+i.toNat*z))
   | .ip x=>some (.ip (x.drop (i.toNat*z)))
   | _=>none) else none
 | _,_=>none
@[go_sem] theorem zFA (z len:Nat) (x:List AV) (k:IntKind) (i:Int):VX z len (.ip x) (.int k i)=if 0<=i/\i < len then some (.ip (x.drop (i.toNat*z))) else none:=(rfl)
@[go_sem] theorem zGX (d z len:Nat) (x y:AR):opX G (some d) (.iaA z len) [x,y] .none none (ST l m sh)=fH d l m sh (VX z len (ev (aF .any l) x) (ev (aF .any l) y)):=by
 apply cW;simp only[map_cons,map_nil,kf];cases hx:ev (aF AV.any l) x<;>cases hy:ev (aF AV.any l) y<;>try rfl
 all_goals
  simp only[kf0,VX]
  split<;>rfl
def VT:AV->AV->Option AV
 | .str s,.int _ i=>if 0<=i then (s[i.toNat]?).map fun b=>.int .u8 (b.toNat:Int) else none
 | _,_=>none
@[go_sem] theorem zBQ (s:List UInt8) (k:IntKind) (i:Int):VT (.str s) (.int k i)=if 0<=i then (s[i.toNat]?).map fun b=>.int .u8 (b.toNat:Int) else none:=(rfl)
@[go_sem] theorem zGV (d:Nat) (x y:AR):opX G (some d) .ixs [x,y] .none none (ST l m sh)=fH d l m sh (VT (ev (aF .any l) x) (ev (aF .any l) y)):=by
 apply cW;simp only[map_cons,map_nil,kf];cases hx:ev (aF AV.any l) x<;>cases hy:ev (aF AV.any l) y<;>try rfl
 simp only[kf0,VT];split
 ·simp only[Option.map_map];rfl
 ·rfl
@[go_sem] theorem zEG (d:Nat) (str:Bool) (z:Nat) (x y:AR):opX G (some d) (.slc str z true false) [x,y] .none none (ST l m sh)=fH d l m sh (bJ str z (ev (aF .any l) x) (some (ev (aF .any l) y)) none):=by
 apply cW;simp only[map_cons,map_nil,kf,kf0]
@[go_sem] theorem zEF (d:Nat) (str:Bool) (z:Nat) (x y:AR):opX G (some d) (.slc str z false true) [x,y] .none none (ST l m sh)=fH d l m sh (bJ str z (ev (aF .any l) x) none (some (ev (aF .any l) y))):=by
 apply cW;simp only[map_cons,map_nil,kf,kf0]
@[go_sem] theorem zEE (d:Nat) (str:Bool) (z:Nat) (x y w:AR):opX G (some d) (.slc str z true true) [x,y,w] .none none (ST l m sh)=fH d l m sh (bJ str z (ev (aF .any l) x) (some (ev (aF .any l) y)) (some (ev (aF .any l) w))):=by
 apply cW;simp only[map_cons,map_nil,kf,kf0]
@[go_sem] theorem zAK (d:Nat) (zero:List AV) (pl:List (Nat × Nat)) (args:List AR):opX G (some d) (.build zero pl) args .none none (ST l m sh)=fH d l m sh ((fK zero pl (args.map (ev (aF .any l)))).map .agg):=by
 apply cW;simp only[kf,kf0,Option.map_map];rfl
@[go_sem] theorem X8 (d:Nat) (zero:List AV) (pl:List (Nat × Nat)) (args:List AR):opX G (some d) (.buildR zero pl) args .none none (ST l m sh)=fH d l m sh ((mE zero pl (args.map (ev (aF .any l)))).map .aggR):=by
 apply cW;simp only[kf,kf0,Option.map_map];rfl
def gO (z:Nat) (zero:List AV) (len:Nat) (pl:List Nat) (xs:List AV):Option AV:=
 (fK (bX zero len) (pl.map fun i=>(i*z,z)) xs).map fun cs=>.sl .full z (dS z len cs)
@[go_sem] theorem zGP (d z:Nat) (zero:List AV) (len:Nat) (pl:List Nat) (args:List AR):opX G (some d) (.mks z zero len pl) args .none none (ST l m sh)=fH d l m sh (gO z zero len pl (args.map (ev (aF .any l)))):=by
 apply cW;simp only[kf,kf0,gO,Option.map_map];rfl
def iF (str:Bool) (z bytes:Nat):AV->AV->Option AV
 | .sl md z' x,y=>(jE str z y).bind fun l2=>if (z'=z\/(x=[]/\md=.full))/\md≠.no/\0 < z/\(x.length+l2.length)*bytes<=140737488355328/\x.length+l2.length<=4611686018427387904 then some (.sl .own z (x++l2)) else none
 | _,_=>none
theorem MI (d:Nat) (str:Bool) (z bytes:Nat) (u v:AV):kf G d .none (.app str z bytes) [u,v] (none,[])=(iF str z bytes u v).map fun v=>(v,(none,[])):=by
 simp only[kf]
 cases u<;>try rfl
 simp only[kf0,iF]
 cases jE str z v with
 | none=>rfl
 | some l2 =>
  simp only[Option.bind_some]
  split<;>rfl
@[go_sem] theorem zHD (d s:Nat) (str:Bool) (z bytes:Nat) (y:AR):opX G (some d) (.app str z bytes) [.t s,y] .none (some s) (ST l m sh)=fH d (eO l s (aH (aF .any l s))) m sh (iF str z bytes (aF .any l s) (ev (aF .any l) y)):=by
 unfold opX;have h':kf G ((some d).getD 0) .none (.app str z bytes) ([AR.t s,y].map (ev (ST l m sh).fr)) (rdm (ST l m sh) .none)=(iF str z bytes (aF .any l s) (ev (aF .any l) y)).map fun v=>(v,(none,[])):=MI d str z bytes _ _
 rw[h']
 cases iF str z bytes (aF .any l s) (ev (aF .any l) y) with
 | none=>rfl
 | some v =>
  show some (put (dE (ST l m sh) (some s)) (some d) v)=_;rw[z9,gS];rfl
@[go_sem] theorem zEL (d:Nat) (str:Bool) (z bytes:Nat) (a:AV) (y:AR):opX G (some d) (.app str z bytes) [.c a,y] .none none (ST l m sh)=fH d l m sh (iF str z bytes a (ev (aF .any l) y)):=
 cW (MI d str z bytes _ _)
def extA (i:Nat):AV->Option AV
 | .tup x=>x[i]?
 | _=>none
@[go_sem] theorem zCC (i:Nat) (x:List AV):extA i (.tup x)=x[i]?:=(rfl)
@[go_sem] theorem zGY (d i:Nat) (x:AR):opX G (some d) (.ext i) [x] .none none (ST l m sh)=fH d l m sh (extA i (ev (aF .any l) x)):=by
 apply cW;simp only[map_cons,map_nil,kf]
 cases ev (aF AV.any l) x<;>rfl
def mkfA (f:FuncId) (caps:List AV):Option AV:=if caps.all (D2 true) then some (.fn f caps) else none
@[go_sem] theorem RS (off:Nat) (x:List AV):fU false off 1 x=x[off]?:=by
 unfold fU;simp only[Bool.false_eq_true,if_false];cases h:x.drop off with
 | nil =>
  have:x[off]?=none:=by
   rw[getElem?_eq_none]
   have:=congrArg List.length h
   simp at this;omega
  rw[this];rfl
 | cons a r =>
  have:x[off]?=some a:=by
   have h2:(x.drop off)[0]?=some a:=by rw[h];rfl
   rw[getElem?_drop] at h2;simpa using h2
  rw[this];rfl
@[go_sem] theorem TJ (off n:Nat) (x:List AV):fU true off n x=if ((x.drop off).take n).length=n then some (.agg ((x.drop off).take n)) else none:=(rfl)
attribute [go_sem] getElem?_cons_zero getElem?_cons_succ drop_zero drop_succ_cons take_succ_cons take_zero
@[go_sem] theorem zAL (d:Nat) (zero:List AV):opX G (some d) (.alloc zero) [] (.lo d) none (ST l m sh)=if (aF none m d).isNone then some (ST (eO l d (.loc d 0)) (eO m d (some zero)) sh) else none:=by
 unfold opX;simp only[map_nil,kf,kf0,DB,Option.getD_some,true_and];by_cases h:(aF none m d).isNone=true
 ·rw[if_pos h,if_pos h]
  show some (put (dE (wrm (ST l m sh) _ _) none) (some d) _)=_;rw[CV,kW,gS]
 ·rw[if_neg h,if_neg h]
@[go_sem] theorem X9 (d:Nat) (zero:List AV):opX G (some d) (.allocS zero) [] .sh none (ST l m sh)=some (ST (eO l d (.ptr sh.length 0)) m (sh++[zero])):=by
 unfold opX;simp only[map_nil,kf,kf0,jG,if_true];rw[IS,kW,gS]
def WU (d:Nat) (l:List (Nat × AV)) (m:List (Nat × Option (List AV))) (sh:LL):Option (List AV)->Option AS
 | some cs=>if (aF none m d).isNone then some (ST (eO l d (.loc d 0)) (eO m d (some cs)) sh) else none
 | none=>none
@[go_sem] theorem YX (d:Nat) (cs:List AV):WU d l m sh (some cs)=if (aF none m d).isNone then some (ST (eO l d (.loc d 0)) (eO m d (some cs)) sh) else none:=(rfl)
@[go_sem] theorem zHA (d n:Nat) (x:AR):opX G (some d) (.box n) [x] (.lo d) none (ST l m sh)=WU d l m sh (cD n (ev (aF .any l) x)):=by
 unfold opX;simp only[map_cons,map_nil,kf,kf0,DB,Option.getD_some,true_and,nS]
 cases cD n (ev (aF AV.any l) x) with
 | none=>simp only[Option.map_none,ite_self];rfl
 | some cs =>
  simp only[Option.map_some,WU];by_cases h:(aF none m d).isNone=true
  ·rw[if_pos h,if_pos h]
   show some (put (dE (wrm (ST l m sh) _ _) none) (some d) _)=_;rw[CV,kW,gS]
  ·rw[if_neg h,if_neg h]
def SR (d:Nat) (l:List (Nat × AV)) (m:List (Nat × Option (List AV))) (sh:LL):Option (List AV)->Option AS
 | some cs=>some (ST (eO l d (.ptr sh.length 0)) m (sh++[cs]))
 | none=>none
@[go_sem] theorem WV (d:Nat) (cs:List AV):SR d l m sh (some cs)=some (ST (eO l d (.ptr sh.length 0)) m (sh++[cs])):=(rfl)
@[go_sem] theorem zEJ (d n:Nat) (x:AR):opX G (some d) (.boxS n) [x] .sh none (ST l m sh)=SR d l m sh (cD n (ev (aF .any l) x)):=by
 unfold opX;simp only[map_cons,map_nil,kf,kf0,jG,if_true,nS]
 cases cD n (ev (aF AV.any l) x) with
 | none=>rfl
 | some cs =>
  show some (put (dE (wrm (ST l m sh) _ _) none) (some d) _)=_;rw[IS,kW,gS];rfl
def mD:List AV->Option (List AV)
 | []=>some []
 | x :: xs=>if cB (aH x)=true then (mD xs).map (aH x :: ·) else none
theorem B7:∀ (x:List AV),mD x=if x.all (fun y=>cB (aH y))=true then some (x.map aH) else none
 | []=>rfl
 | x :: xs=>by
  simp only[mD,B7 xs,all_cons,map_cons];by_cases h:cB (aH x)=true
  ·rw[if_pos h]
   simp only[h,Bool.true_and]
   split<;>rfl
  ·rw[if_neg h]
   have:cB (aH x)=false:=by simpa using h
   simp [this]
@[go_sem] theorem zEX (k:IntKind) (n:Int):ldV (.int k n)=some (.int k n):=(rfl)
@[go_sem] theorem zEW (s:List UInt8):ldV (.str s)=some (.str s):=(rfl)
@[go_sem] theorem zHF (a:Nat):ldV (.mp a)=some (.mp a):=(rfl)
@[go_sem] theorem zHE (z:Nat) (x:LL):ldV (.sl .no z x)=some (.sl .no z x):=(rfl)
@[go_sem] theorem YL:mD []=some []:=(rfl)
@[go_sem] theorem YM (k:IntKind) (n:Int) (xs:List AV):mD (.int k n :: xs)=(mD xs).map (.int k n :: ·):=(rfl)
@[go_sem] theorem YK (s:List UInt8) (xs:List AV):mD (.str s :: xs)=(mD xs).map (.str s :: ·):=(rfl)
@[go_sem] theorem zBZ (z:Nat) (x:LL) (xs:List AV):mD (.sl .no z x :: xs)=(mD xs).map (.sl .no z x :: ·):=(rfl)
@[go_sem] theorem YG (off n:Nat) (x:List AV):ldC false off n x=(x[off]?).bind ldV:=by
 unfold ldC;simp only[Bool.false_eq_true,if_false];cases x[off]?<;>rfl
@[go_sem] theorem zBG (off n:Nat) (x:List AV):ldC true off n x=if ((x.drop off).take n).length=n then (mD ((x.drop off).take n)).map .agg else none:=by
 unfold ldC;rw[if_pos rfl,B7];by_cases h1:((x.drop off).take n).length=n
 ·rw[if_pos h1]
  by_cases h2:((x.drop off).take n).all (fun x=>cB (aH x))=true
  ·rw[if_pos ⟨h1,h2⟩,if_pos h2];rfl
  ·rw[if_neg (fun h=>h2 h.2),if_neg h2];rfl
 ·rw[if_neg (fun h=>h1 h.1),if_neg h1]
def ldA (ml:ML) (agg:Bool) (n:Nat) (m:List (Nat × Option (List AV))) (sh:LL):AV->Option AV
 | .loc s off=>if ml=.lo s then (aF none m s).bind fun cells=>ldC agg off n cells else none
 | .ptr o off=>if ml=.sh then (sh[o]?).bind fun cells=>ldC agg off n cells else none
 | .ip cells=>fU agg 0 n cells
 | _=>none
@[go_sem] theorem zEZ (s:Nat) (agg:Bool) (n off:Nat):ldA (.lo s) agg n m sh (.loc s off)=(aF none m s).bind fun cells=>ldC agg off n cells:=by simp [ldA]
@[go_sem] theorem zEY (agg:Bool) (n o off:Nat):ldA .sh agg n m sh (.ptr o off)=(sh[o]?).bind fun cells=>ldC agg off n cells:=by simp [ldA]
@[go_sem] theorem zHG (ml:ML) (agg:Bool) (n:Nat) (cells:List AV):ldA ml agg n m sh (.ip cells)=fU agg 0 n cells:=(rfl)
theorem m9 (ml:ML) (d:Nat) (v:AV):(some (put (dE (wrm (ST l m sh) (rdm (ST l m sh) ml) ml) none) (some d) v):Option AS)=fH d l m sh (some v):=by
 rw[@EF I2,kW,gS];rfl
@[go_sem] theorem zIO (d:Nat) (agg:Bool) (n:Nat) (x:AR) (ml:ML):opX G (some d) (.ld agg n) [x] ml none (ST l m sh)=fH d l m sh (ldA ml agg n m sh (ev (aF .any l) x)):=by
 unfold opX;have key:=fun v=>m9 (l:=l) (m:=m) (sh:=sh) ml d v
 simp only[map_cons,map_nil,kf,kf0,nS];cases hx:ev (aF AV.any l) x<;>simp only[ldA]<;>try rfl
 ·rename_i o off
  by_cases hml:ml=.sh
  ·subst hml
   simp only[if_true,jG]
   cases sh[o]? with
   | none=>rfl
   | some cells =>
    simp only[Option.bind_some]
    cases ldC agg off n cells with
    | none=>rfl
    | some v=>exact key v
  ·simp only[hml,if_false];rfl
 ·rename_i s off
  by_cases hml:ml=.lo s
  ·subst hml
   rw[if_pos rfl,if_pos rfl];have h1:(rdm (ST l m sh) (.lo s)).1=aF none m s:=rfl;rw[h1]
   cases aF none m s with
   | none=>rfl
   | some cells =>
    simp only[Option.bind_some]
    cases ldC agg off n cells with
    | none=>rfl
    | some v=>exact key v
  ·simp only[hml,if_false];rfl
 ·cases fU agg 0 n _ with
  | none=>rfl
  | some v=>exact key v
@[go_sem] theorem zCZ (k:IntKind) (n:Int) (x:List AV):cO (.int k n :: x)=true:=(rfl)
@[go_sem] theorem zFR (o:Own) (z:Nat) (y:LL) (x:List AV):cO (.sl o z y :: x)=true:=(rfl)
def stX (ml:ML) (_:Nat) (l:List (Nat × AV)) (m:List (Nat × Option (List AV))) (sh:LL):AV->Option (List AV)->Option AS
 | .loc s off,some cs=>if ml=.lo s then (aF none m s).bind fun cells=>(gG off cs cells).map fun c'=>ST l (eO m s (some c')) sh else none
 | .ptr o off,some cs=>if ml=.sh then (sh[o]?).bind fun cells=>if cO cells=true then (gG off cs cells).map fun c'=>ST l m (sh.set o c') else none else none
 | _,_=>none
@[go_sem] theorem zDV (s n off:Nat) (cs:List AV):stX (.lo s) n l m sh (.loc s off) (some cs)=(aF none m s).bind fun cells=>(gG off cs cells).map fun c'=>ST l (eO m s (some c')) sh:=by simp [stX]
@[go_sem] theorem zDU (o n off:Nat) (cs:List AV):stX .sh n l m sh (.ptr o off) (some cs)=(sh[o]?).bind fun cells=>if cO cells=true then (gG off cs cells).map fun c'=>ST l m (sh.set o c') else none:=by simp [stX]
@[go_sem] theorem zIL (n:Nat) (x y:AR) (ml:ML):opX G none (.st n) [x,y] ml none (ST l m sh)=stX ml n l m sh (ev (aF .any l) x) (dH n (ev (aF .any l) y)):=by
 unfold opX;simp only[map_cons,map_nil,kf,kf0,nS];cases hy:dH n (ev (aF AV.any l) y) with
 | none =>
  have h0:∀ {α β:Type} (o:Option α),(o.bind fun _=>(none:Option β))=none:=fun o=>by cases o<;>rfl
  cases ev (aF AV.any l) x<;>simp only[stX,Option.bind_none,h0,ite_self]<;>rfl
 | some cs =>
  cases hx:ev (aF AV.any l) x<;>simp only[stX,Option.bind_some]<;>try rfl
  ·rename_i o off
   by_cases hml:ml=.sh
   ·subst hml
    simp only[if_true,jG]
    cases sh[o]? with
    | none=>rfl
    | some cells =>
     simp only[Option.bind_some];by_cases hb:cO cells=true
     ·rw[if_pos hb,if_pos hb]
      cases gG off cs cells<;>rfl
     ·rw[if_neg hb,if_neg hb]
   ·simp only[hml,if_false]
  ·rename_i s off
   by_cases hml:ml=.lo s
   ·subst hml
    simp only[if_true,DB]
    cases aF none m s with
    | none=>rfl
    | some cells =>
     simp only[Option.bind_some]
     cases gG off cs cells with
     | none=>rfl
     | some c' =>
      show some (put (dE (wrm (ST l m sh) _ (.lo s)) none) none _)=_;rw[CV];rfl
   ·simp only[hml,if_false]
def HP (d:Nat) (l:List (Nat × AV)) (m:List (Nat × Option (List AV))) (r:Option (AV × LL)):Option AS:=r.map fun r=>ST (eO l d r.1) m r.2
@[go_sem] theorem X0 (d:Nat) (v:AV) (sh':LL):HP d l m (some (v,sh'))=some (ST (eO l d v) m sh'):=(rfl)
theorem O3 {d:Nat} {k:AK} {args:List AR} {r:Option (AV × LL)} (h:kf G d .sh k (args.map (ev (aF .any l))) (none,sh)=r.map fun v=>(v.1,(none,v.2))):opX G (some d) k args .sh none (ST l m sh)=HP d l m r:=by
 unfold opX;have h':kf G ((some d).getD 0) .sh k (args.map (ev (ST l m sh).fr)) (rdm (ST l m sh) .sh)=r.map fun v=>(v.1,(none,v.2)):=h
 rw[h']
 cases r with
 | none=>rfl
 | some v =>
  show some (put (ST l m v.2) (some d) v.1)=_;rw[gS];rfl
def s2bA (sh:LL):AV->Option (AV × LL)
 | .str s=>if s.length<=140737488355328 then some (.ss sh.length 0 s.length 1,sh++[s.map fun b=>.int .u8 (b.toNat:Int)]) else none
 | _=>none
def zID (s:List UInt8):List AV:=s.map fun b=>.int .u8 (b.toNat:Int)
def IF (sh:LL):AV->Option AV
 | .sl _ z l=>if z=1 then (bU l).map .str else none
 | .ss o off n z=>if z=1 then (fB false 1 sh (.ss o off n z)).bind fun l=>(bU l).map .str else none
 | _=>none
@[go_sem] theorem Q2 (o off n:Nat):IF sh (.ss o off n 1)=(sh[o]?).bind fun cells=>(cZ off n 1 cells).bind fun l=>(bU l).map .str:=by
 simp only[IF,fB,if_true,and_self];cases sh[o]?<;>rfl
@[go_sem] theorem zEK (d:Nat) (x:AR):opX G (some d) .b2s [x] .sh none (ST l m sh)=fH d l m sh (IF sh (ev (aF .any l) x)):=by
 unfold opX;simp only[map_cons,map_nil,kf,nS];cases hx:ev (aF AV.any l) x<;>try rfl
 ·rename_i o z y
  simp only[kf0,IF,jG];by_cases hz:z=1
  ·rw[if_pos hz,if_pos hz]
   cases bU y with
   | none=>rfl
   | some s=>exact m9 .sh d _
  ·rw[if_neg hz,if_neg hz];rfl
 ·rename_i o off n z
  simp only[kf0,IF,jG,true_and];by_cases hz:z=1
  ·rw[if_pos hz,if_pos hz]
   cases fB false 1 sh (.ss o off n z) with
   | none=>rfl
   | some y =>
    simp only[Option.bind_some]
    cases bU y with
    | none=>rfl
    | some s=>exact m9 .sh d _
  ·rw[if_neg hz,if_neg hz];rfl
def WY:AV->Option AV
 | .sl _ z l=>if z=1 then (bU l).map .str else none
 | _=>none
@[go_sem] theorem zGE (o:Own) (x:LL):WY (.sl o 1 x)=(bU x).map .str:=(rfl)
@[go_sem] theorem zHC (d:Nat) (x:AR):opX G (some d) .b2s [x] .none none (ST l m sh)=fH d l m sh (WY (ev (aF .any l) x)):=by
 apply cW;simp only[map_cons,map_nil,kf]
 cases ev (aF AV.any l) x<;>try rfl
 ·simp only[kf0,WY]
  split
  ·simp only[Option.map_map];rfl
  ·rfl
@[go_sem] theorem MZ:bU []=some []:=(rfl)
def O4 (z:Nat) (zero:List AV) (bytes:Nat) (sh:LL):AV->AV->Option (AV × LL)
 | .int k n,.int k' c=>if k=.i64/\k'=.i64/\0<=n/\n<=c/\c*bytes<=140737488355328/\c<=4611686018427387904/\0 < z/\zero.length=z then some (.ss sh.length 0 n.toNat z,sh++[bX zero n.toNat]) else none
 | _,_=>none
@[go_sem] theorem BI (z:Nat) (zero:List AV) (bytes:Nat) (n c:Int):O4 z zero bytes sh (.int .i64 n) (.int .i64 c)=if 0<=n/\n<=c/\c*bytes<=140737488355328/\c<=4611686018427387904/\0 < z/\zero.length=z then some (.ss sh.length 0 n.toNat z,sh++[bX zero n.toNat]) else none:=by
 simp only[O4,true_and]
@[go_sem] theorem zGR (d z:Nat) (zero:List AV) (bytes:Nat) (x y:AR):opX G (some d) (.mkl z zero bytes) [x,y] .sh none (ST l m sh)=HP d l m (O4 z zero bytes sh (ev (aF .any l) x) (ev (aF .any l) y)):=by
 apply O3;simp only[map_cons,map_nil,kf]
 cases ev (aF AV.any l) x<;>cases ev (aF AV.any l) y<;>try rfl
 simp only[kf0,O4,true_and]
 split<;>rfl
def gE (z bytes:Nat) (sh:LL) (l2:Option LL) (x:AV):Option (AV × LL):=
 l2.bind fun l2=>match x with
   | .sl .full _ []=>if l2=[] then some (.sl .full z [],sh) else if 0 < z/\l2.length*bytes<=140737488355328/\l2.length<=4611686018427387904 then some (.ss sh.length 0 l2.length z,sh++[l2.flatten]) else none
   | .ss o off n z'=>if off=0/\z'=z/\0 < z/\(n+l2.length)*bytes<=140737488355328/\n+l2.length<=4611686018427387904 then
     (sh[o]?).bind fun cells=>if cO cells/\n*z=cells.length/\cells.all iV then some (.ss sh.length 0 (n+l2.length) z,sh.set o aZ++[cells++l2.flatten]) else none
    else none
   | _=>none
@[go_sem] theorem zEM (d:Nat) (str:Bool) (z bytes:Nat) (x y:AR):opX G (some d) (.appS str z bytes) [x,y] .sh none (ST l m sh)=HP d l m (gE z bytes sh (fB str z sh (ev (aF .any l) y)) (ev (aF .any l) x)):=by
 apply O3;simp only[map_cons,map_nil,kf,kf0,if_true,gE]
 cases fB str z sh (ev (aF AV.any l) y) with
 | none=>rfl
 | some l2 =>
  simp only[Option.bind_some];generalize ev (aF AV.any l) x=vx
  cases vx<;>try rfl
  ·rename_i o z' y
   cases o<;>cases y<;>try rfl
   simp only;by_cases h1:l2=[]
   ·rw[if_pos h1,if_pos h1];rfl
   ·rw[if_neg h1,if_neg h1]
    split<;>rfl
  ·rename_i o off n z'
   simp only;by_cases h1:off=0/\z'=z/\0 < z/\(n+l2.length)*bytes<=140737488355328/\n+l2.length<=4611686018427387904
   ·rw[if_pos h1,if_pos h1]
    cases sh[o]? with
    | none=>rfl
    | some cells =>
     simp only[Option.bind_some]
     split<;>rfl
   ·rw[if_neg h1,if_neg h1];rfl
def JJ (len:Nat) (sh:LL):AV->AV->AV->Option AV
 | .ptr o off,.int _ i,.int _ j=>if 0<=i/\i < j/\j<=len then (sh[o]?).bind fun cells=>if cO cells/\off+len<=cells.length then some (.ss o (off+i.toNat) (j.toNat - i.toNat) 1) else none else none
 | _,_,_=>none
@[go_sem] theorem zGK (d len:Nat) (x i j:AR):opX G (some d) (.sla len) [x,i,j] .sh none (ST l m sh)=fH d l m sh (JJ len sh (ev (aF .any l) x) (ev (aF .any l) i) (ev (aF .any l) j)):=by
 unfold opX;have h':kf G ((some d).getD 0) .sh (.sla len) ([x,i,j].map (ev (ST l m sh).fr)) (rdm (ST l m sh) .sh)=(JJ len sh (ev (aF .any l) x) (ev (aF .any l) i) (ev (aF .any l) j)).map fun v=>(v,(none,sh)):=by
  simp only[map_cons,map_nil,kf,nS]
  cases ev (aF AV.any l) x<;>cases ev (aF AV.any l) i<;>cases ev (aF AV.any l) j<;>try rfl
  rename_i o off k1 i k2 j;simp only[kf0,JJ,true_and,jG];by_cases h:0<=i/\i < j/\j<=len
  ·rw[if_pos h,if_pos h]
   cases sh[o]? with
   | none=>rfl
   | some cells =>
    simp only[Option.bind_some];by_cases h2:cO cells=true/\off+len<=cells.length
    ·rw[if_pos h2,if_pos h2];rfl
    ·rw[if_neg h2,if_neg h2];rfl
  ·rw[if_neg h,if_neg h];rfl
 rw[h']
 cases JJ len sh (ev (aF .any l) x) (ev (aF .any l) i) (ev (aF .any l) j) with
 | none=>rfl
 | some v =>
  show some (put (ST l m sh) (some d) v)=_;rw[gS];rfl
@[go_sem] theorem ZO (len o off:Nat) (k1 k2:IntKind) (i j:Int):JJ len sh (.ptr o off) (.int k1 i) (.int k2 j)=if 0<=i/\i < j/\j<=len then (sh[o]?).bind fun cells=>if cO cells/\off+len<=cells.length then some (.ss o (off+i.toNat) (j.toNat - i.toNat) 1) else none else none:=(rfl)
def clrX (z:Nat) (zero:List AV) (l:List (Nat × AV)) (m:List (Nat × Option (List AV))) (sh:LL):AV->Option AS
 | .ss o off n z'=>if z'=z/\zero.length=z then (sh[o]?).bind fun cells=>if cO cells then (gG off (bX zero n) cells).map fun c'=>ST l m (sh.set o c') else none else none
 | .sl _ _ []=>some (ST l m sh)
 | _=>none
def cQ (bytes n:Nat):Bool:=decide (n*bytes<=140737488355328/\n<=4611686018427387904)
@[go_sem] theorem jA (z' bytes z:Nat) (hz:0 < z) (r:List AV) (l2:LL):gE z bytes sh (some (r :: l2)) (.sl .full z' [])=if cQ bytes (l2.length+1)=true then some (.ss sh.length 0 (l2.length+1) z,sh++[(r :: l2).flatten]) else none:=by
 simp [gE,cQ,hz]
@[go_sem] theorem jL (o n bytes z:Nat) (hz:0 < z) (l2:LL):gE z bytes sh (some l2) (.ss o 0 n z)=if cQ bytes (n+l2.length)=true then (sh[o]?).bind fun cells=>if cO cells=true/\n*z=cells.length/\cells.all iV=true then some (.ss sh.length 0 (n+l2.length) z,sh.set o aZ++[cells++l2.flatten]) else none else none:=by
 simp [gE,cQ,hz]
@[go_sem] theorem ZW (o:Own) (z:Nat) (x:LL):fB false z sh (.sl o z x)=some x:=by simp [fB,jE]
@[go_sem] theorem ZV (o off n z:Nat):fB false z sh (.ss o off n z)=(sh[o]?).bind fun cells=>cZ off n z cells:=by simp [fB]
@[go_sem] theorem XS (s:List UInt8):fB true 1 sh (.str s)=some (aI s):=by simp [fB,jE]
def zIJ (z:Nat):AV->Option AV
 | .sl _ _ _=>some (.sl .full z [])
 | .ss _ _ _ _=>some (.sl .full z [])
 | _=>none
def HD (left:Bool) (x y:AV):Option AV:=shA left x y
@[go_sem] theorem zGL (d:Nat) (left:Bool) (x y:AR):opX G (some d) (.shf left) [x,y] .none none (ST l m sh)=fH d l m sh (HD left (ev (aF .any l) x) (ev (aF .any l) y)):=by
 apply cW;simp only[map_cons,map_nil,kf,kf0,HD]
@[go_sem] theorem zGJ (k k':IntKind) (a b:Int):HD true (.int k a) (.int k' b)=if 0<=b then some (.int k (k.wrap (a*2 ^ (min b.toNat k.bits)))) else none:=by simp [HD,shA]
@[go_sem] theorem zGI (k k':IntKind) (a b:Int):HD false (.int k a) (.int k' b)=if 0<=b then some (.int k (a.fdiv (2 ^ (min b.toNat k.bits)))) else none:=by simp [HD,shA]
def cviA (k:IntKind):AV->Option AV
 | .int _ n=>some (.int k (k.wrap n))
 | _=>none
@[go_sem] theorem zCW (k k':IntKind) (n:Int):cviA k (.int k' n)=some (.int k (k.wrap n)):=(rfl)
@[go_sem] theorem zGZ (d:Nat) (k:IntKind) (x:AR):opX G (some d) (.cvi k) [x] .none none (ST l m sh)=fH d l m sh (cviA k (ev (aF .any l) x)):=by
 apply cW;simp only[map_cons,map_nil,kf]
 cases ev (aF AV.any l) x<;>rfl
def VU (agg:Bool) (z len:Nat):AV->AV->Option AV
 | .agg l,.int _ i=>if 0<=i/\i < len/\l.length=len*z then fU agg (i.toNat*z) z l else none
 | _,_=>none
@[go_sem] theorem zBR (agg:Bool) (z len:Nat) (x:List AV) (k:IntKind) (i:Int):VU agg z len (.agg x) (.int k i)=if 0<=i/\i < len/\x.length=len*z then fU agg (i.toNat*z) z x else none:=(rfl)
@[go_sem] theorem zGW (d:Nat) (agg:Bool) (z len:Nat) (x y:AR):opX G (some d) (.ixA agg z len) [x,y] .none none (ST l m sh)=fH d l m sh (VU agg z len (ev (aF .any l) x) (ev (aF .any l) y)):=by
 apply cW;simp only[map_cons,map_nil,kf]
 cases ev (aF AV.any l) x<;>cases ev (aF AV.any l) y<;>try rfl
 simp only[kf0,VU]
 split<;>rfl
@[go_sem] theorem zGQ (d:Nat):opX G (some d) .mkm [] .sh none (ST l m sh)=some (ST (eO l d (.mp sh.length)) m (sh++[[.mapv []]])):=by
 have:opX G (some d) .mkm [] .sh none (ST l m sh)=HP d l m (some (.mp sh.length,sh++[[.mapv []]])):=by
  apply O3;rfl
 rw[this];rfl
def UW (ok agg:Bool) (kk:List Nat) (zero:List AV) (sh:LL):AV->AV->Option AV
 | .mp o,k=>if bD k=true then (j6 sh o).bind fun l=>(lkA kk k l).bind fun r=>lkR ok agg zero r else none
 | _,_=>none
@[go_sem] theorem zEV (ok agg:Bool) (kk:List Nat) (zero:List AV) (o:Nat) (k:AV):UW ok agg kk zero sh (.mp o) k=if bD k=true then (j6 sh o).bind fun l=>(lkA kk k l).bind fun r=>lkR ok agg zero r else none:=(rfl)
@[go_sem] theorem zGS (d:Nat) (ok agg:Bool) (kk:List Nat) (zero:List AV) (x y:AR):opX G (some d) (.lkp ok agg kk zero) [x,y] .sh none (ST l m sh)=fH d l m sh (UW ok agg kk zero sh (ev (aF .any l) x) (ev (aF .any l) y)):=by
 unfold opX;simp only[map_cons,map_nil,kf,nS];cases hx:ev (aF AV.any l) x<;>try rfl
 rename_i o;simp only[kf0,UW,jG,true_and];by_cases hz:bD (ev (aF AV.any l) y)=true
 ·rw[if_pos hz,if_pos hz]
  cases j6 sh o with
  | none=>rfl
  | some y' =>
   simp only[Option.bind_some]
   cases lkA kk (ev (aF AV.any l) y) y' with
   | none=>rfl
   | some r =>
    simp only[Option.bind_some]
    cases lkR ok agg zero r with
    | none=>rfl
    | some v=>exact m9 .sh d v
 ·rw[if_neg hz,if_neg hz];rfl
def UR (kk:List Nat) (l:List (Nat × AV)) (m:List (Nat × Option (List AV))) (sh:LL):AV->AV->AV->Option AS
 | .mp o,k,v=>if aV k=true/\aV v=true then (j6 sh o).bind fun x=>(muA kk k v x).map fun x'=>ST l m (sh.set o [.mapv x']) else none
 | _,_,_=>none
@[go_sem] theorem zEO (kk:List Nat) (o:Nat) (k v:AV):UR kk l m sh (.mp o) k v=if aV k=true/\aV v=true then (j6 sh o).bind fun x=>(muA kk k v x).map fun x'=>ST l m (sh.set o [.mapv x']) else none:=(rfl)
@[go_sem] theorem zGO (kk:List Nat) (x y z:AR):opX G none (.mup kk) [x,y,z] .sh none (ST l m sh)=UR kk l m sh (ev (aF .any l) x) (ev (aF .any l) y) (ev (aF .any l) z):=by
 unfold opX;simp only[map_cons,map_nil,kf,nS];cases hx:ev (aF AV.any l) x<;>try rfl
 rename_i o;simp only[kf0,UR,jG,true_and];by_cases hz:aV (ev (aF AV.any l) y)=true/\aV (ev (aF AV.any l) z)=true
 ·rw[if_pos hz,if_pos hz]
  cases j6 sh o with
  | none=>rfl
  | some y' =>
   simp only[Option.bind_some]
   cases muA kk (ev (aF AV.any l) y) (ev (aF AV.any l) z) y'<;>rfl
 ·rw[if_neg hz,if_neg hz]
def PC (sh:LL):AV->Option (AV × LL)
 | .ptr o off=>(sh[o]?).bind fun cells=>if cO cells=true then (cells[off]?).bind fun x=>match x with
   | .sl .own z l=>some (x,sh.set o (cells.set off (.sl .no z l)))
   | .sl .full _ _=>some (x,sh)
   | _=>none else none
 | _=>none
@[go_sem] theorem zGU (d:Nat) (x:AR):opX G (some d) .ldo [x] .sh none (ST l m sh)=HP d l m (PC sh (ev (aF .any l) x)):=by
 apply O3;simp only[map_cons,map_nil,kf];cases hx:ev (aF AV.any l) x<;>try rfl
 rename_i o off;simp only[kf0,PC,if_true]
 cases sh[o]? with
 | none=>rfl
 | some cells =>
  simp only[Option.bind_some];split
  ·cases cells[off]? with
   | none=>rfl
   | some y =>
    simp only[Option.bind_some]
    cases y<;>try rfl
    rename_i o z q;cases o<;>rfl
  ·rfl
def K0 (o off:Nat) (cells:List AV) (sh:LL):AV->Option (AV × LL)
 | .sl .own z l=>some (.sl .own z l,sh.set o (cells.set off (.sl .no z l)))
 | .sl .full z l=>some (.sl .full z l,sh)
 | _=>none
@[go_sem] theorem zBF (o off:Nat):PC sh (.ptr o off)=(sh[o]?).bind fun cells=>if cO cells=true then (cells[off]?).bind fun x=>K0 o off cells sh x else none:=by
 simp only[PC]
 congr 1
 funext cells
 split
 ·congr 1
  funext x
  unfold K0
  split<;>rfl
 ·rfl
def I4 (l:List (Nat × AV)) (m:List (Nat × Option (List AV))) (sh:LL):AV->AV->Option AS
 | .ptr o off,.sl md z x=>(sh[o]?).bind fun cells=>if cO cells=true/\off < cells.length then some (ST l m (sh.set o (cells.set off (.sl md z x)))) else none
 | _,_=>none
@[go_sem] theorem ZL (o off:Nat) (md:Own) (z:Nat) (x:LL):I4 l m sh (.ptr o off) (.sl md z x)=(sh[o]?).bind fun cells=>if cO cells=true/\off < cells.length then some (ST l m (sh.set o (cells.set off (.sl md z x)))) else none:=(rfl)
theorem I3 (x:AR) (v:AV):kf G 0 .sh .sto [ev (aF .any l) x,v] (none,sh)=(match ev (aF .any l) x,v with
  | .ptr o off,.sl md z y=>(sh[o]?).bind fun cells=>if cO cells=true/\off < cells.length then some (.any,(none,sh.set o (cells.set off (.sl md z y)))) else none
  | _,_=>none):=by
 simp only[kf];cases hx:ev (aF AV.any l) x<;>try rfl
 rename_i o off;simp only[kf0,if_true];have h0:∀ {α β:Type} (o:Option α),(o.bind fun _=>(none:Option β))=none:=fun o=>by cases o<;>rfl
 cases v<;>simp only[ite_self,h0]
@[go_sem] theorem zEC (x:AR) (s:Nat):opX G none .sto [x,.t s] .sh (some s) (ST l m sh)=I4 (eO l s (aH (aF .any l s))) m sh (ev (aF .any l) x) (aF .any l s):=by
 unfold opX;have h:=I3 (G:=G) (l:=l) (sh:=sh) x (aF .any l s);have h':kf G ((none:Option Nat).getD 0) .sh .sto ([x,AR.t s].map (ev (ST l m sh).fr)) (rdm (ST l m sh) .sh)=_:=h;rw[h'];cases hx:ev (aF AV.any l) x<;>try rfl
 rename_i o off;cases hv:aF AV.any l s<;>try rfl
 rename_i md z y;simp only[I4]
 cases sh[o]? with
 | none=>rfl
 | some cells =>
  simp only[Option.bind_some];by_cases hc:cO cells=true/\off < cells.length
  ·rw[if_pos hc,if_pos hc]
   show some (put (dE (ST l m _) (some s)) none _)=_;rw[z9,hv];rfl
  ·rw[if_neg hc,if_neg hc]
@[go_sem] theorem zED (x:AR) (v:AV):opX G none .sto [x,.c v] .sh none (ST l m sh)=I4 l m sh (ev (aF .any l) x) v:=by
 unfold opX;have h:=I3 (G:=G) (l:=l) (sh:=sh) x v;have h':kf G ((none:Option Nat).getD 0) .sh .sto ([x,AR.c v].map (ev (ST l m sh).fr)) (rdm (ST l m sh) .sh)=_:=h;rw[h'];cases hx:ev (aF AV.any l) x<;>try rfl
 rename_i o off
 cases v<;>try rfl
 rename_i md z y;simp only[I4]
 cases sh[o]? with
 | none=>rfl
 | some cells =>
  simp only[Option.bind_some];by_cases hc:cO cells=true/\off < cells.length
  ·rw[if_pos hc,if_pos hc];rfl
  ·rw[if_neg hc,if_neg hc]
def T5 (d:Nat) (l:List (Nat × AV)) (m:List (Nat × Option (List AV))) (sh:LL):Option (AV × LL)->Option AS
 | some (v,[])=>some (ST (eO l d v) m sh)
 | _=>none
def T4 (d:Nat) (l:List (Nat × AV)) (m:List (Nat × Option (List AV))):Option (AV × LL)->Option AS
 | some (v,sh')=>some (ST (eO l d v) m sh')
 | none=>none
@[go_sem] theorem XV (d:Nat) (v:AV):T5 d l m sh (some (v,[]))=some (ST (eO l d v) m sh):=(rfl)
@[go_sem] theorem XT (d:Nat) (v:AV) (sh':LL):T4 d l m (some (v,sh'))=some (ST (eO l d v) m sh'):=(rfl)
def iU (p:Bool) (xs:List AV):Bool:=xs.all (gC p)
@[go_sem] theorem UO (p:Bool):iU p []=true:=(rfl)
@[go_sem] theorem R7 (p:Bool) (x:AV) (xs:List AV):iU p (x :: xs)=(gC p x && iU p xs):=(rfl)
@[go_sem] theorem zDI (p:Bool) (k:IntKind) (n:Int):gC p (.int k n)=true:=(rfl)
@[go_sem] theorem Y0 (p b:Bool):gC p (.bool b)=true:=(rfl)
@[go_sem] theorem zDG (p:Bool) (s:List UInt8):gC p (.str s)=true:=(rfl)
@[go_sem] theorem zDH (p:Bool) (a b:Nat):gC p (.ptr a b)=p:=(rfl)
@[go_sem] theorem zGF (p:Bool) (a b c d:Nat):gC p (.ss a b c d)=p:=(rfl)
@[go_sem] theorem zDJ (p:Bool) (x:List AV):gC p (.agg x)=true:=(rfl)
@[go_sem] theorem zGG (p:Bool) (o:Own) (z:Nat) (x:LL):gC p (.sl o z x)=true:=(rfl)
def wO (G:aM) (d:Nat) (f:FuncId) (xs:List AV) (l:List (Nat × AV)) (m:List (Nat × Option (List AV))) (sh:LL):Option AS:=
 if iU false xs then T5 d l m sh (G f (xs.map eW) []) else none
def wK (G:aM) (d:Nat) (f:FuncId) (xs:List AV) (l:List (Nat × AV)) (m:List (Nat × Option (List AV))) (sh:LL):Option AS:=
 if iU true xs then T4 d l m (G f (xs.map aH) sh) else none
theorem IE (d:Nat) (f:FuncId) (xs:List AV):(match kX G .none f xs (rdm (ST l m sh) .none) with | some (v,m')=>some (put (dE (wrm (ST l m sh) m' .none) none) (some d) v) | none=>none)=wO G d f xs l m sh:=by
 unfold kX wO iU;simp only;by_cases hc:xs.all (gC false)=true
 ·rw[if_pos hc,if_pos hc]
  cases hg:G f (xs.map eW) [] with
  | none=>rfl
  | some r =>
   obtain⟨v,sh'⟩:=r
   cases sh' with
   | nil =>
    show some (put (ST l m sh) (some d) v)=_;rw[gS];rfl
   | cons c cs=>rfl
 ·rw[if_neg hc,if_neg hc]
theorem QX (d:Nat) (f:FuncId) (xs:List AV):(match kX G .sh f xs (rdm (ST l m sh) .sh) with | some (v,m')=>some (put (dE (wrm (ST l m sh) m' .sh) none) (some d) v) | none=>none)=wK G d f xs l m sh:=by
 unfold kX wK iU;simp only[jG];by_cases hc:xs.all (gC true)=true
 ·rw[if_pos hc,if_pos hc]
  cases hg:G f (xs.map aH) sh with
  | none=>rfl
  | some r =>
   obtain⟨v,sh'⟩:=r;show some (put (ST l m sh') (some d) v)=_;rw[gS];rfl
 ·rw[if_neg hc,if_neg hc]
@[go_sem] theorem zAJ (d:Nat) (f:FuncId) (args:List AR):opX G (some d) (.call f) args .none none (ST l m sh)=wO G d f (args.map (ev (aF .any l))) l m sh:=IE d f _
@[go_sem] theorem zAH (d:Nat) (f:FuncId) (args:List AR):opX G (some d) (.call f) args .sh none (ST l m sh)=wK G d f (args.map (ev (aF .any l))) l m sh:=QX d f _
@[go_sem] theorem YW (d:Nat) (f:FuncId) (xs:List AV):wO G d f xs l m sh=if iU false xs then T5 d l m sh (G f (xs.map eW) []) else none:=(rfl)
@[go_sem] theorem YV (d:Nat) (f:FuncId) (xs:List AV):wK G d f xs l m sh=if iU true xs then T4 d l m (G f (xs.map aH) sh) else none:=(rfl)
def zIB (G:aM) (d:Nat) (f:AV) (xs:List AV) (l:List (Nat × AV)) (m:List (Nat × Option (List AV))) (sh:LL):Option AS:=
 match f with
 | .fn f caps=>wO G d f (xs++caps) l m sh
 | _=>none
def zFP (G:aM) (d:Nat) (f:AV) (xs:List AV) (l:List (Nat × AV)) (m:List (Nat × Option (List AV))) (sh:LL):Option AS:=
 match f with
 | .fn f caps=>wK G d f (xs++caps) l m sh
 | _=>none
def OI (d:Nat) (l:List (Nat × AV)) (m:List (Nat × Option (List AV))) (sh:LL):Option (AV × LL)->Option AS
 | some (v,[])=>if tC v=true then some (ST (eO l d v) m sh) else none
 | _=>none
@[go_sem] theorem XU (d:Nat) (v:AV):OI d l m sh (some (v,[]))=if tC v=true then some (ST (eO l d v) m sh) else none:=(rfl)
@[go_sem] theorem T3 (b:Bool):tC (.bool b)=true:=(rfl)
@[go_sem] theorem RX (k:IntKind) (n:Int):bD (.int k n)=true:=(rfl)
@[go_sem] theorem S2 (k:IntKind) (n:Int):aV (.int k n)=true:=(rfl)
@[go_sem] theorem Q4 (b:Bool):aV (.bool b)=true:=(rfl)
@[go_sem] theorem S3 (x:List AV):aV (.agg x)=x.all bD:=(rfl)
@[go_sem] theorem XG (k:IntKind) (n:Int):kM sh (.int k n)=some (.int k n):=(rfl)
@[go_sem] theorem ZM (o off n z:Nat):kM sh (.ss o off n z)=(sh[o]?).bind fun cells=>(cZ off n z cells).map fun l=>.sl .no z l:=(rfl)
def tK:Option AV->Option (List AV)->Option (List AV)
 | some x,some xs=>some (x :: xs)
 | _,_=>none
@[go_sem] theorem WK (x:AV) (xs:List AV):tK (some x) (some xs)=some (x :: xs):=(rfl)
@[go_sem] theorem XH:jS sh []=some []:=(rfl)
@[go_sem] theorem TT (x:AV) (xs:List AV):jS sh (x :: xs)=tK (kM sh x) (jS sh xs):=by
 simp only[jS]
 cases kM sh x<;>cases jS sh xs<;>rfl
def wN (G:aM) (d:Nat) (f:FuncId) (ys:Option (List AV)) (l:List (Nat × AV)) (m:List (Nat × Option (List AV))) (sh:LL):Option AS:=
 ys.bind fun xs=>if iU false xs then OI d l m sh (G f (xs.map eW) []) else none
@[go_sem] theorem SQ (d:Nat) (f:FuncId) (xs:List AV):wN G d f (some xs) l m sh=if iU false xs then OI d l m sh (G f (xs.map eW) []) else none:=(rfl)
theorem WO (d:Nat) (f:FuncId) (xs:List AV):(match iE G .sh f xs (rdm (ST l m sh) .sh) with | some (v,m')=>some (put (dE (wrm (ST l m sh) m' .sh) none) (some d) v) | none=>none)=wN G d f (jS sh xs) l m sh:=by
 unfold iE wN iU;simp only[jG]
 cases jS sh xs with
 | none=>rfl
 | some ys =>
  simp only[Option.bind_some];by_cases hc:ys.all (gC false)=true
  ·rw[if_pos hc,if_pos hc]
   cases hg:G f (ys.map eW) [] with
   | none=>rfl
   | some r =>
    obtain⟨v,sh'⟩:=r
    cases sh' with
    | nil =>
     simp only[Option.bind_some,isEmpty_nil,Bool.true_and,OI];by_cases hv:tC v=true
     ·rw[if_pos hv,if_pos hv];exact m9 .sh d v
     ·rw[if_neg hv,if_neg hv]
    | cons c cs=>rfl
  ·rw[if_neg hc,if_neg hc]
@[go_sem] theorem zAI (d:Nat) (f:FuncId) (args:List AR):opX G (some d) (.callR f) args .sh none (ST l m sh)=wN G d f (jS sh (args.map (ev (aF .any l)))) l m sh:=WO d f _
def zFQ (G:aM) (d:Nat) (f:AV) (xs:List AV) (l:List (Nat × AV)) (m:List (Nat × Option (List AV))) (sh:LL):Option AS:=
 match f with
 | .fn f caps=>wN G d f (jS sh (xs++caps)) l m sh
 | _=>none
@[go_sem] theorem zGC (k:IntKind) (a b:Int):eU .and (.int k a) (.int k b)=some (.int k (k.wrap (((a % 2 ^ k.bits).toNat &&& (b % 2 ^ k.bits).toNat:Nat):Int))):=by simp [eU]
@[go_sem] theorem zIC (k:IntKind) (a b:Int):eU .or (.int k a) (.int k b)=some (.int k (k.wrap (((a % 2 ^ k.bits).toNat ||| (b % 2 ^ k.bits).toNat:Nat):Int))):=by simp [eU]
@[go_sem] theorem zGD (k:IntKind) (a b:Int):eU .add (.int k a) (.int k b)=some (.int k (k.wrap (a+b))):=by simp [eU]
@[go_sem] theorem zFS (k:IntKind) (a b:Int):eU .sub (.int k a) (.int k b)=some (.int k (k.wrap (a - b))):=by simp [eU]
@[go_sem] theorem zFW (k:IntKind) (a b:Int):eU .mul (.int k a) (.int k b)=some (.int k (k.wrap (a*b))):=by simp [eU]
@[go_sem] theorem zFU (k:IntKind) (a b:Int):eU .quo (.int k a) (.int k b)=if b=0 then none else some (.int k (k.wrap (a.tdiv b))):=by simp [eU]
@[go_sem] theorem zFT (k:IntKind) (a b:Int):eU .rem (.int k a) (.int k b)=if b=0 then none else some (.int k (a.tmod b)):=by simp [eU]
@[go_sem] theorem zGB (k:IntKind) (a b:Int):eU .eql (.int k a) (.int k b)=some (.bool (decide (a=b))):=by simp [eU];rfl
@[go_sem] theorem zFV (k:IntKind) (a b:Int):eU .neq (.int k a) (.int k b)=some (.bool (decide (a≠b))):=by simp [eU,bne];rfl
@[go_sem] theorem zFX (k:IntKind) (a b:Int):eU .lss (.int k a) (.int k b)=some (.bool (decide (a < b))):=by simp [eU]
@[go_sem] theorem zFY (k:IntKind) (a b:Int):eU .leq (.int k a) (.int k b)=some (.bool (decide (a<=b))):=by simp [eU]
@[go_sem] theorem zFZ (k:IntKind) (a b:Int):eU .gtr (.int k a) (.int k b)=some (.bool (decide (b < a))):=by simp [eU]
@[go_sem] theorem zGA (k:IntKind) (a b:Int):eU .geq (.int k a) (.int k b)=some (.bool (decide (b<=a))):=by simp [eU]
@[go_sem] theorem MD (a b:List UInt8):eU .add (.str a) (.str b)=if a.length+b.length<=140737488355328 then some (.str (a++b)) else none:=(rfl)
@[go_sem] theorem zDD (a b:List UInt8):eU .eql (.str a) (.str b)=some (.bool (a == b)):=(rfl)
@[go_sem] theorem zDA (a b:List UInt8):eU .neq (.str a) (.str b)=some (.bool (a != b)):=(rfl)
@[go_sem] theorem zDB (a b:List UInt8):eU .lss (.str a) (.str b)=some (.bool (Op.bytesLess a b)):=(rfl)
@[go_sem] theorem MC (a b:List UInt8):eU .leq (.str a) (.str b)=some (.bool (Op.bytesLess a b || a == b)):=(rfl)
@[go_sem] theorem zDC (a b:List UInt8):eU .gtr (.str a) (.str b)=some (.bool !(Op.bytesLess a b || a == b)):=(rfl)
theorem L6 (F:AFun) (args:List AV) (sh:LL) (h:args.length=F.nargs):GD G F args sh=w9 F sh (aC G F.body (ST (t8 0 args) [] sh)):=by
 unfold GD;rw[if_pos h,BX]
def IA (keep:Bool) (sh0:LL) (res:List ARes) (r:Option (AX × AS)):Option (AV × LL):=w9 ⟨0,keep,.skip,res⟩ sh0 r
def E6 (keep:Bool) (sh0:LL) (res:List ARes) (σ:AS):Option (AV × LL):=match eM keep sh0 σ res with
  | some vs=>qX keep sh0.length vs σ.sh
  | none=>none
@[go_sem] theorem YN (keep:Bool) (sh0:LL) (res:List ARes) (σ:AS):IA keep sh0 res (some (.norm,σ))=E6 keep sh0 res σ:=(rfl)
@[go_sem] theorem zCA (keep:Bool) (sh0:LL) (res:List ARes) (σ:AS):IA keep sh0 res (some (.ret,σ))=E6 keep sh0 res σ:=(rfl)
@[go_sem] theorem zCB (keep:Bool) (sh0:LL) (res:List ARes) (c:Prop) [Decidable c] (x y:Option (AX × AS)):IA keep sh0 res (if c then x else y)=if c then IA keep sh0 res x else IA keep sh0 res y:=by split<;>rfl
def yH (agg:Bool) (n:Nat) (m:List (Nat × Option (List AV))) (sh:LL):AV->Option AV
 | .loc s off=>(aF none m s).bind fun cells=>ldC agg off n cells
 | .ptr o off=>(sh[o]?).bind fun cells=>if cO cells then ldC agg off n cells else none
 | _=>none
@[go_sem] theorem YU (agg:Bool) (n s off:Nat):yH agg n m sh (.loc s off)=(aF none m s).bind fun cells=>ldC agg off n cells:=(rfl)
def jQ (keep:Bool) (sh0:LL) (l:List (Nat × AV)) (m:List (Nat × Option (List AV))) (sh:LL):List ARes->Option (List AV)
 | []=>some []
 | .tmp t :: rs=>tK (iB keep sh0 sh (eW (aF .any l t))) (jQ keep sh0 l m sh rs)
 | .tmpD t :: rs=>tK (iB keep sh0 sh (aH (aF .any l t))) (jQ keep sh0 l m sh rs)
 | .cell t agg n :: rs=>tK ((yH agg n m sh (aF .any l t)).bind (iB keep sh0 sh)) (jQ keep sh0 l m sh rs)
@[go_sem] theorem ZZ (keep:Bool) (sh0:LL):jQ keep sh0 l m sh []=some []:=(rfl)
@[go_sem] theorem ZY (keep:Bool) (sh0:LL) (t:Nat) (rs:List ARes):jQ keep sh0 l m sh (.tmp t :: rs)=tK (iB keep sh0 sh (eW (aF .any l t))) (jQ keep sh0 l m sh rs):=(rfl)
@[go_sem] theorem XW (keep:Bool) (sh0:LL) (t:Nat) (rs:List ARes):jQ keep sh0 l m sh (.tmpD t :: rs)=tK (iB keep sh0 sh (aH (aF .any l t))) (jQ keep sh0 l m sh rs):=(rfl)
@[go_sem] theorem XX (keep:Bool) (sh0:LL) (t:Nat) (agg:Bool) (n:Nat) (rs:List ARes):jQ keep sh0 l m sh (.cell t agg n :: rs)=tK ((yH agg n m sh (aF .any l t)).bind (iB keep sh0 sh)) (jQ keep sh0 l m sh rs):=(rfl)
theorem uC (keep:Bool) (sh0:LL):∀ rs,eM keep sh0 (ST l m sh) rs=jQ keep sh0 l m sh rs
 | []=>rfl
 | .tmp t :: rs=>by
  simp only[eM,tV,Option.bind_some,jQ,uC keep sh0 rs];show (match iB keep sh0 sh (eW (aF .any l t)),jQ keep sh0 l m sh rs with | some v,some vs=>some (v :: vs) | _,_=>none)=_
  cases iB keep sh0 sh (eW (aF .any l t))<;>cases jQ keep sh0 l m sh rs<;>rfl
 | .tmpD t :: rs=>by
  simp only[eM,tV,Option.bind_some,jQ,uC keep sh0 rs];show (match iB keep sh0 sh (aH (aF .any l t)),jQ keep sh0 l m sh rs with | some v,some vs=>some (v :: vs) | _,_=>none)=_
  cases iB keep sh0 sh (aH (aF .any l t))<;>cases jQ keep sh0 l m sh rs<;>rfl
 | .cell t agg n :: rs=>by
  simp only[eM,jQ,uC keep sh0 rs];have h1:tV (ST l m sh) (.cell t agg n)=yH agg n m sh (aF .any l t):=by
   simp only[tV,S4]
   cases aF AV.any l t<;>rfl
  rw[h1];show (match (yH agg n m sh (aF .any l t)).bind (iB keep sh0 sh),jQ keep sh0 l m sh rs with | some v,some vs=>some (v :: vs) | _,_=>none)=_
  cases (yH agg n m sh (aF .any l t)).bind (iB keep sh0 sh)<;>cases jQ keep sh0 l m sh rs<;>rfl
def IU:List AV->AV
 | [v]=>v
 | vs=>.tup vs
@[go_sem] theorem Y4 (v:AV):IU [v]=v:=(rfl)
@[go_sem] theorem Y5:IU []=.tup []:=(rfl)
@[go_sem] theorem XE (v u:AV) (r:List AV):IU (v :: u :: r)=.tup (v :: u :: r):=(rfl)
def xV (k:Bool) (vs:List AV):Bool:=vs.all (kO k)
@[go_sem] theorem YA (k:Bool):xV k []=true:=(rfl)
@[go_sem] theorem UM (k:Bool) (v:AV) (vs:List AV):xV k (v :: vs)=(kO k v && xV k vs):=(rfl)
def eP (keep:Bool) (n0:Nat) (sh:LL):Bool:=keep || (sh.take n0).all fun c=>c.all (hJ n0)
@[go_sem] theorem RZ (n0:Nat):eP true n0 sh=true:=(rfl)
@[go_sem] theorem RY:eP false 0 sh=true:=(rfl)
def KG (keep:Bool) (n0:Nat) (sh:LL):Option (List AV)->Option (AV × LL)
 | some vs=>if xV keep vs=true/\eP keep n0 sh=true then some (IU vs,if keep then sh else sh.take n0) else none
 | none=>none
@[go_sem] theorem UF (keep:Bool) (n0:Nat) (vs:List AV):KG keep n0 sh (some vs)=if xV keep vs=true/\eP keep n0 sh=true then some (IU vs,if keep then sh else sh.take n0) else none:=(rfl)
@[go_sem] theorem zAB (keep:Bool) (sh0:LL) (res:List ARes):E6 keep sh0 res (ST l m sh)=KG keep sh0.length sh (jQ keep sh0 l m sh res):=by
 unfold E6;rw[uC]
 cases jQ keep sh0 l m sh res with
 | none=>rfl
 | some vs =>
  show qX keep sh0.length vs sh=_;unfold qX KG xV eP;simp only[Bool.or_eq_true];rfl
@[go_sem] theorem zBV (keep:Bool) (sh0:LL) (k:IntKind) (n:Int):iB keep sh0 sh (.int k n)=some (.int k n):=(rfl)
@[go_sem] theorem YJ (keep:Bool) (sh0:LL) (b:Bool):iB keep sh0 sh (.bool b)=some (.bool b):=(rfl)
@[go_sem] theorem zBT (keep:Bool) (sh0:LL) (s:List UInt8):iB keep sh0 sh (.str s)=some (.str s):=(rfl)
@[go_sem] theorem zFC (keep:Bool) (sh0:LL) (o:Own) (z:Nat) (x:LL):iB keep sh0 sh (.sl o z x)=some (.sl o z x):=(rfl)
@[go_sem] theorem zBW (keep:Bool) (sh0:LL) (x:List AV):iB keep sh0 sh (.agg x)=some (.agg x):=(rfl)
@[go_sem] theorem zBU (keep:Bool) (sh0:LL) (a b:Nat):iB keep sh0 sh (.ptr a b)=some (.ptr a b):=(rfl)
@[go_sem] theorem YI (sh0:LL) (o off n z:Nat):iB true sh0 sh (.ss o off n z)=some (.ss o off n z):=(rfl)
@[go_sem] theorem zFB (sh0:LL) (o off n z:Nat):iB false sh0 sh (.ss o off n z)=if sh0.length<=o/\eK sh0 sh=true then kM sh (.ss o off n z) else none:=(rfl)
@[go_sem] theorem zEA (p:Bool) (a b c d:Nat):kO p (.ss a b c d)=p:=(rfl)
@[go_sem] theorem zAF (p:Bool) (k:IntKind) (n:Int):kO p (.int k n)=true:=(rfl)
@[go_sem] theorem X7 (p b:Bool):kO p (.bool b)=true:=(rfl)
@[go_sem] theorem zAD (p:Bool) (s:List UInt8):kO p (.str s)=true:=(rfl)
@[go_sem] theorem zAE (p:Bool) (a b:Nat):kO p (.ptr a b)=p:=(rfl)
@[go_sem] theorem zEB (p:Bool) (o:Own) (z:Nat) (x:LL):kO p (.sl o z x)=true:=(rfl)
@[go_sem] theorem zAG (p:Bool) (x:List AV):kO p (.agg x)=true:=(rfl)
theorem aA {B:aM} {T:FuncId->Option AFun} {f:FuncId} (F:AFun) {args:List AV} {sh:LL} {r:AV × LL} (hB:B f args sh=none) (hT:T f=some F) (hn:args.length=F.nargs)
  (h:IA F.keep sh F.res (aC (Gx B T) F.body (ST (t8 0 args) [] sh))=some r):Gx B T f args sh=some r:=by
 letI:=I2
 refine zDQ hB hT ?_;rw[L6 _ _ _ hn];exact h
end
end Go.Av
namespace Go.Av
variable {G:aM} {l:List (Nat × AV)} {m:List (Nat × Option (List AV))} {sh:LL}
noncomputable def tF (G:aM) (L:ACode) (kill:List Nat) (r:Option (AX × AS)):Option (AX × AS):=match r with
 | some (.norm,σ')=>aC G L (forget kill σ')
 | r=>r
theorem A0 (a:List Nat) (v:AV):bY a (bY a v)=bY a v:=by
 cases v with
 | loc s o=>by_cases h:s∈a<;>simp [bY,h]
 | _=>rfl
theorem B1 (kill:List Nat) (σ:AS):forget kill (forget kill σ)=forget kill σ:=by
 unfold forget;simp only[AS.mk.injEq,and_true];refine⟨?_,?_⟩
 ·funext t
  by_cases h:t∈kill
  ·simp [h]
  ·simp [h,A0]
 ·funext t
  by_cases h:t∈kill<;>simp [h]
theorem aB {L:ACode} {kill:List Nat} {a:ACode} (h:L=.loop kill a) (l:List (Nat × AV)) (m:List (Nat × Option (List AV))) (sh:LL) :
  aC G L (ST l m sh)=tF G L kill (aC G a (ST (jH kill l) (iO kill m) sh)):=by
 subst h;rw[W3];have hf:∀ σ,aC G (.loop kill a) σ=aC G (.loop kill a) (forget kill σ):=by
  intro σ;show vX (fun σ=>aC G a (forget kill σ)) σ=vX (fun σ=>aC G a (forget kill σ)) (forget kill σ);rw[@vW I2,@vW I2 _ (forget kill σ)];simp only[B1]
 cases aC G a (ST (jH kill l) (iO kill m) sh) with
 | none=>rfl
 | some r =>
  obtain⟨x,σ⟩:=r
  cases x with
  | norm=>exact hf σ
  | _=>rfl
@[go_sem] theorem UU (L:ACode) (kill:List Nat) (l:List (Nat × AV)) (m:List (Nat × Option (List AV))) (sh:LL):tF G L kill (some (.norm,ST l m sh))=aC G L (ST (jH kill l) (iO kill m) sh):=by
 rw[<- sU];rfl
@[go_sem] theorem zAU (L:ACode) (kill:List Nat) (i:Nat) (σ:AS):tF G L kill (some (.ex i,σ))=some (.ex i,σ):=(rfl)
@[go_sem] theorem YC (L:ACode) (kill:List Nat) (σ:AS):tF G L kill (some (.ret,σ))=some (.ret,σ):=(rfl)
@[go_sem] theorem UV (L:ACode) (kill:List Nat):tF G L kill none=none:=(rfl)
@[go_sem] theorem YD (L:ACode) (kill:List Nat) (c:Prop) [Decidable c] (x y:Option (AX × AS)):tF G L kill (if c then x else y)=if c then tF G L kill x else tF G L kill y:=by split<;>rfl
@[go_sem] theorem PT:(none:Option (List AV)).isNone=true:=(rfl)
def GC:Option (List AV)->Option LL->Option LL
 | some r,some rs=>some (r :: rs)
 | _,_=>none
def eY (z:Nat):List AV->Option LL
 | []=>some []
 | x :: xs=>GC (cD z x) (eY z xs)
@[go_sem] theorem US (z:Nat):eY z []=some []:=(rfl)
@[go_sem] theorem SA (z:Nat) (x:AV) (xs:List AV):eY z (x :: xs)=GC (cD z x) (eY z xs):=(rfl)
@[go_sem] theorem WJ (r:List AV) (rs:LL):GC (some r) (some rs)=some (r :: rs):=(rfl)
theorem rV {n:Nat} {x:AV} {cs:List AV} (h:cD n x=some cs):cs.length=n:=by
 unfold cD at h
 split at h
 ·split at h
  ·cases h;assumption
  ·cases h
 ·split at h
  ·cases h;rename_i h1;simp [h1.1]
  ·cases h
theorem vN {z:Nat}:∀ {xs:List AV} {rs:LL},eY z xs=some rs->rs.length=xs.length/\∀ r∈rs,r.length=z
 | [],rs,h=>by cases h;simp
 | x :: xs,rs,h=>by
  simp only[eY] at h;cases h1:cD z x with
  | none=>rw[h1] at h;cases h
  | some r =>
   cases h2:eY z xs with
   | none=>rw[h1,h2] at h;cases h
   | some rs' =>
    rw[h1,h2] at h;cases h
    have:=vN h2
    have h3:=rV h1;simp only[length_cons,this.1,true_and,mem_cons,forall_eq_or_imp];exact⟨h3,this.2⟩
theorem qR (z:Nat):∀ (rs:LL),(∀ r∈rs,r.length=z)->dS z rs.length rs.flatten=rs
 | [],_=>rfl
 | r :: rs,h=>by
  have h1:=h r (by simp);have h2:=qR z rs (fun r hr=>h r (by simp [hr]));show ((r :: rs).flatten).take z :: dS z rs.length (((r :: rs).flatten).drop z)=_;rw[flatten_cons,take_left' h1,drop_left' h1,h2]
theorem tJ {z:Nat} {zero:List AV} (hz:zero.length=z):∀ (xs:List AV) (pre:List AV) (k:Nat),pre.length=k*z ->
  fK (pre++bX zero xs.length) ((List.range' k xs.length).map fun i=>(i*z,z)) xs=(eY z xs).map fun rs=>pre++rs.flatten
 | [],pre,k,h=>by simp [fK,eY,bX]
 | x :: xs,pre,k,h=>by
  simp only[length_cons,range'_succ,map_cons,fK,eY];cases h1:cD z x with
  | none=>cases h3:eY z xs<;>rfl
  | some cs =>
   have hc:=rV h1;have h2:gG (k*z) cs (pre++bX zero (xs.length+1))=some ((pre++cs)++bX zero xs.length):=by
    rw[show bX zero (xs.length+1)=zero++bX zero xs.length from rfl];unfold gG;rw[if_pos (by simp only[length_append];omega)];rw[take_left' h,<- append_assoc pre zero,drop_left' (by simp [hc,h,hz])]
   simp only[h2];rw[tJ hz xs (pre++cs) (k+1) (by simp [h,hc,Nat.add_mul])]
   cases eY z xs with
   | none=>rfl
   | some rs=>simp [GC]
theorem oK {z:Nat} {zero:List AV} {len:Nat} {pl:List Nat} {xs:List AV} (hz:zero.length=z) (hl:xs.length=len) (hp:pl=List.range' 0 len) :
  gO z zero len pl xs=(eY z xs).map fun rs=>.sl .full z rs:=by
 subst hl;subst hp;unfold gO;rw[show bX zero xs.length=[]++bX zero xs.length from rfl,tJ hz xs [] 0 (by simp)];cases h:eY z xs with
 | none=>rfl
 | some rs =>
  have:=vN h
  simp only[Option.map_some,nil_append];rw[<- this.1,qR z rs this.2]
@[go_sem] theorem zEU (c0 x0:AV):gO 1 [c0] 1 [0] [x0]=(eY 1 [x0]).map fun rs=>.sl .full 1 rs:=oK rfl rfl rfl
@[go_sem] theorem zET (c0 x0 x1 x2:AV):gO 1 [c0] 3 [0,1,2] [x0,x1,x2]=(eY 1 [x0,x1,x2]).map fun rs=>.sl .full 1 rs:=oK rfl rfl rfl
@[go_sem] theorem zES (c0 x0 x1 x2 x3 x4:AV):gO 1 [c0] 5 [0,1,2,3,4] [x0,x1,x2,x3,x4]=(eY 1 [x0,x1,x2,x3,x4]).map fun rs=>.sl .full 1 rs:=oK rfl rfl rfl
@[go_sem] theorem zER (c0 c1 c2 x0:AV):gO 3 [c0,c1,c2] 1 [0] [x0]=(eY 3 [x0]).map fun rs=>.sl .full 3 rs:=oK rfl rfl rfl
theorem bV {bytes n:Nat} (h1:bytes<=100000) (h2:n<=1000000000):cQ bytes n=true:=by
 have:n*bytes<=1000000000*100000:=Nat.mul_le_mul h2 h1
 simp only[cQ,decide_eq_true_eq];omega
theorem dM (md o:Own) (hm:md≠.no) (z bytes:Nat) (hz:0 < z) (x y:LL) :
  iF false z bytes (.sl md z x) (.sl o z y)=if cQ bytes (x.length+y.length)=true then some (.sl .own z (x++y)) else none:=by
 simp [iF,jE,cQ,hm,hz]
def LT (cells:Option (List AV)) (pl:List (Nat × Nat)) (xs:List AV):Option (List AV):=cells.bind fun c=>fK c pl xs
@[go_sem] theorem YP (cells:List AV):fK cells [] []=some cells:=(rfl)
@[go_sem] theorem V9 (cells:List AV) (off n:Nat) (pl:List (Nat × Nat)) (x:AV) (xs:List AV):fK cells ((off,n) :: pl) (x :: xs)=LT ((cD n x).bind fun cs=>gG off cs cells) pl xs:=by
 simp only[fK,LT]
 cases cD n x with
 | none=>rfl
 | some cs=>simp only[Option.bind_some];cases gG off cs cells<;>rfl
@[go_sem] theorem V7 (c:List AV) (pl:List (Nat × Nat)) (xs:List AV):LT (some c) pl xs=fK c pl xs:=(rfl)
def DY (cells:Option (List AV)) (pl:List (Nat × Nat)) (xs:List AV):Option (List AV):=cells.bind fun c=>mE c pl xs
@[go_sem] theorem YO (cells:List AV):mE cells [] []=some cells:=(rfl)
@[go_sem] theorem V8 (cells:List AV) (off n:Nat) (pl:List (Nat × Nat)) (x:AV) (xs:List AV):mE cells ((off,n) :: pl) (x :: xs)=DY ((dH n x).bind fun cs=>gG off cs cells) pl xs:=by
 simp only[mE,DY]
 cases dH n x with
 | none=>rfl
 | some cs=>simp only[Option.bind_some];cases gG off cs cells<;>rfl
@[go_sem] theorem SK (c:List AV) (pl:List (Nat × Nat)) (xs:List AV):DY (some c) pl xs=mE c pl xs:=(rfl)
def kD:Nat->List AV->List AV->Option (List AV)
 | _,[],cells=>some cells
 | _,_ :: _,[]=>none
 | 0,c :: cs,_ :: r=>(kD 0 cs r).map fun t=>c :: t
 | n+1,c :: cs,x :: r=>(kD n (c :: cs) r).map fun t=>x :: t
theorem DE:∀ (n:Nat) (cs cells:List AV),cs≠[]->gG n cs cells=kD n cs cells
 | _,[],_,h=>absurd rfl h
 | n,c :: cs,[],_=>by simp [gG,kD]
 | 0,[c],x :: r,_=>by simp [gG,kD]
 | 0,c :: c2 :: cs,x :: r,_=>by
  have:=DE 0 (c2 :: cs) r (by simp)
  simp only[kD];rw[<- this];unfold gG;simp only[length_cons,Nat.zero_add,take_zero,nil_append,Nat.add_le_add_iff_right]
  split<;>simp
 | n+1,c :: cs,x :: r,_=>by
  have:=DE n (c :: cs) r (by simp)
  simp only[kD];rw[<- this];unfold gG;simp only[length_cons];by_cases h:n+(cs.length+1)<=r.length
  ·rw[if_pos h,if_pos (by omega)]
   simp [show n+1+(cs.length+1)=n+(cs.length+1)+1 by omega]
  ·rw[if_neg h,if_neg (by omega)];rfl
@[go_sem] theorem zAA (n:Nat) (c:AV) (cs cells:List AV):gG n (c :: cs) cells=kD n (c :: cs) cells:=DE _ _ _ (by simp)
@[go_sem] theorem J4 (n:Nat) (cells:List AV):kD n [] cells=some cells:=by cases n<;>simp [kD]
@[go_sem] theorem UA (c x:AV) (cs r:List AV):kD 0 (c :: cs) (x :: r)=(kD 0 cs r).map fun t=>c :: t:=(rfl)
@[go_sem] theorem J3 (n:Nat) (c x:AV) (cs r:List AV):kD (n+1) (c :: cs) (x :: r)=(kD n (c :: cs) r).map fun t=>x :: t:=(rfl)
def LX:Own->Own
 | .own=>.no
 | o=>o
@[go_sem] theorem zCO:LX .own=.no:=(rfl)
@[go_sem] theorem zFO:LX .no=.no:=(rfl)
@[go_sem] theorem YT:LX .full=.full:=(rfl)
theorem rN (o:Own) (z:Nat) (x:LL):aH (.sl o z x)=.sl (LX o) z x:=by cases o<;>rfl
def mdK (o:Own):Nat->Own
 | 0=>o
 | _+1=>.own
theorem i6 {n:Int} (h:0<=n):xY n=some n.toNat:=by simp [xY,h]
@[go_sem] theorem zDX (md:Own) (z:Nat) (x:LL) (k:IntKind) (n:Int) (h:0<=n) (h2:n<=(x.length:Int)):bJ false z (.sl md z x) none (some (.int k n))=some (.sl .no z (x.take n.toNat)):=by
 simp only[bJ,dW,i6 h];rw[if_pos ⟨by omega,by omega,.inl trivial⟩];simp
@[go_sem] theorem zDW (md:Own) (z:Nat) (x:LL) (k:IntKind) (n:Int) (h:0<=n) (h2:n<=(x.length:Int)):bJ false z (.sl md z x) (some (.int k n)) none=some (.sl .no z (x.drop n.toNat)):=by
 simp only[bJ,dW,i6 h];rw[if_pos ⟨by omega,by omega,.inl trivial⟩];simp
@[go_sem] theorem oA (z:Nat) (x:List UInt8) (k:IntKind) (n:Int) (h:0<=n) (h2:n<=(x.length:Int)):bJ true z (.str x) none (some (.int k n))=some (.str (x.take n.toNat)):=by
 simp only[bJ,dW,i6 h];rw[if_pos ⟨by omega,by omega⟩];simp
@[go_sem] theorem jT (z:Nat) (x:List UInt8) (k:IntKind) (n:Int) (h:0<=n) (h2:n<=(x.length:Int)):bJ true z (.str x) (some (.int k n)) none=some (.str (x.drop n.toNat)):=by
 simp only[bJ,dW,i6 h];rw[if_pos ⟨by omega,by omega⟩];simp
@[go_sem] theorem oB (z:Nat) (x:List UInt8) (k k':IntKind) (n j:Int) (h:0<=n) (h1:n<=j) (h2:j<=(x.length:Int)):bJ true z (.str x) (some (.int k n)) (some (.int k' j))=some (.str ((x.take j.toNat).drop n.toNat)):=by
 simp only[bJ,dW,i6 h,i6 (Int.le_trans h h1)];rw[if_pos ⟨by omega,by omega⟩]
theorem w64 {n:Int} (h1:-9223372036854775808<=n) (h2:n<=9223372036854775807):IntKind.i64.wrap n=n:=IntWalk.i64_in n ⟨h1,h2⟩
end Go.Av
namespace Go.Av
variable [Gtab]
open Go.ChangeShapes Go.WideShapes Go.ChangeAt Go.RowKit
section
variable {H:Type} {enc:TypeId × Value->H} {P:Program}
theorem pE {W W':World} {sp:Nat->Bool} (hl:laidOutB P=true) (hb:Below W.heap.size W W') :
  ∀ {ts:List TypeId} {vs:List Value} {ds:List (DataW H)} {ps:List MemPlace},(ts.all fun t=>P.readableRec t && decide (t < P.types.size))=true ->
  DataW.TrodAll enc P W 0 (fun _=>true) true ts vs ds ps->(∀ p∈ps,p.block < W.heap.size)->(∀ p∈ps,sp p.block=true)->DataW.TrodAll enc P W' 0 sp true ts vs ds ps
 | [],_,_,_,_,h,_,_=>by
  obtain⟨rfl,rfl,rfl⟩:=trodAll_nil h;exact trodAll_mk0
 | t :: ts,_,_,_,ha,h,hlt,hs=>by
  obtain⟨v,vs,d,ds,p,q,rfl,rfl,rfl,h1,h2⟩:=trodAll_cons h;simp only[all_cons,Bool.and_eq_true,decide_eq_true_eq] at ha;refine⟨p,q,?_,?_,rfl⟩
  ·exact WideElems.Trod_stays hl ha.1.1 ha.1.2 h1 (fun x hx=>hb.same (hlt x (by simp [hx]))) (fun x hx=>hs x (by simp [hx]))
  ·exact pE hl hb ha.2 h2 (fun x hx=>hlt x (by simp [hx])) (fun x hx=>hs x (by simp [hx]))
theorem DF {f:Func} {s:ChangeSpec} {apart fresh handsOn again:Bool} {W W':World} {args:Array Value} {v:Value} {ds gs:List (DataW H)} {before pa pv:List MemPlace}
  (hW:DataW.Whole enc P f.params.toList s.vars apart W args.toList ds gs before)
  (hres:∀ (b:Nat) (sp:Nat->Bool) (hd:Bool),DataW.TrodAll enc P W' b sp hd f.resultTypes.toList (v.resultList f.resultTypes.size) (s.fn H (ds++gs)).results [])
  (hargs:∀ sp:Nat->Bool,(∀ p∈before,sp p.block=true)->DataW.TrodAll enc P W' 0 sp true f.params.toList args.toList (s.fn H (ds++gs)).args pa)
  (hvars:∀ sp:Nat->Bool,(∀ p∈before,sp p.block=true)->DataW.TrodVars enc P W' sp s.vars (s.fn H (ds++gs)).vars pv)
  (hps:before=pa++pv) (hb:Below W.heap.size W W')
  (hok:∀ (j:Nat) (t:TypeId) (r:Value),f.resultTypes[j]?=some t->(v.resultList f.resultTypes.size)[j]?=some r->Value.okWide P W' .any 0 t r) :
  s.post enc P f apart fresh handsOn again W args v W':=by
 have hold:∀ p∈before,(fun b=>decide (b < W.heap.size)) p.block=true:=fun p hp=>by simpa using hW.lt p hp
 refine⟨ds,gs,before,[],pa,pv,hW,hres _ _ _,hargs _ hold,hvars _ hold,World.keptBut_mono (fun p hp=>⟨hp,?_⟩) (hb.frame (·∈before)),fun _=>?_⟩
 ·rw[hps,mem_append] at hp
  exact Or.inr hp
 ·have hW2:=hW
  obtain⟨_,_,_,_,_,hz,hn⟩:=hW;refine⟨hok,_,_,([]++pa)++pv,⟨[]++pa,pv,trodAll_append (hargs _ (fun _ _=>rfl)) (hres _ _ _),hvars _ (fun _ _=>rfl),rfl,?_,?_⟩,?_⟩
  ·intro b off hp
   have hp':MemPlace.cell b off∈before:=by rw[hps];simpa using hp
   rw[hb.frozen (p:=⟨b,off,none⟩) (hW2.lt _ hp')];exact hz b off hp'
  ·intro ha
   have:=hn ha
   rw[hps] at this;simpa using this
  ·intro p hp _
   rw[hps];simpa using hp
theorem K2 {f:Func} {n:Nat} {s:ChangeSpec} {W:World} {args:Array Value} {ds gs:List (DataW H)} {before:List MemPlace} {apart fresh handsOn again:Bool} {tb:TypeId} {G:aM} {avs:List AV}
  (hW:DataW.Whole enc P f.params.toList s.vars apart W args.toList ds gs before) (hv:s.vars=[]) (hl:laidOutB P=true)
  (hpar:(f.params.toList.all fun t=>P.readableRec t && decide (t < P.types.size))=true) (hrt:f.resultTypes=#[tb]) (htb:P.underlying tb=some .bool)
  (hG:gQ P G) (hrep:aJ (aP (cx0 (fun _=>0) (fun _=>0) (fun b _=>b < W.heap.size) W 0) aR) avs args.toList)
  (hg:G n avs []=some (.bool true,[])) (hfn:s.fn H ds={ results:=[.lit (.bool true)],args:=ds }) (hreal:xE P n) (hgl:kL (fun b _=>b < W.heap.size) W) :
  Calls P n args W fun e W'=>∃ v,e=.returned v/\s.post enc P f apart fresh handsOn again W args v W':=by
 have hsem:gZ P n avs [] (.bool true) []:=by
  rcases hG _ _ _ _ _ hg with h | hx
  ·exact h.2
  ·intro kd β bs S0 O0 w vs he hr
   obtain⟨v,w',_,_,_,hrn,_⟩:=hx kd β bs S0 O0 w vs he hr;rw[gY hreal] at hrn;cases hrn
 have hS:=hsem (fun _=>.stab) (fun _=>0) (fun _=>0) (fun b _=>b < W.heap.size) (fun _=>none) W args (WA (fun b n hb=>hb) hgl) hrep;refine hS.mono ?_
 rintro e W' ⟨v,kd',β',bs',rfl,ha⟩
 have hr:=ha.rep;have hv':v=.bool true:=by simpa [aP,aQ,aE] using hr
 subst hv';have hb:Below W.heap.size W W':=⟨ha.os,ha.tape,ha.output,ha.size,fun k hk=>ha.frame k hk (fun i hi=>by simp at hi) rfl⟩
 refine⟨_,rfl,?_⟩;have hW2:=hW;obtain⟨p,q,hA,hV,hpq,_,_⟩:=hW2;rw[hv] at hV;obtain⟨rfl,rfl⟩:=trodVars_none hV;rw[append_nil] at hpq;subst hpq;have e1:(s.fn H (ds++[])).results=[.lit (.bool true)]:=by rw[append_nil,hfn]
 have e2:(s.fn H (ds++[])).args=ds:=by rw[append_nil,hfn]
 have e3:(s.fn H (ds++[])).vars=[]:=by rw[append_nil,hfn]
 have hsz:f.resultTypes.size=1:=by rw[hrt];rfl
 refine DF (pa:=before) (pv:=[]) hW ?_ ?_ ?_ (by simp) hb ?_
 ·intro b sp hd
  rw[e1,hsz,hrt];exact trodAll_cons_mk (shut_bool htb true) trodAll_mk0
 ·intro sp hsp
  rw[e2];exact pE hl hb hpar hA (fun p hp=>hW.lt p hp) hsp
 ·intro sp _
  rw[hv,e3];exact rfl
 ·exact ok_one hrt rfl (okWide_bool_mk htb true)
variable {w:World} {base:Nat} {spare:Nat->Bool} {held:Bool}
theorem qN {a:Addr} {u:Value} (h:w.cell? a=some u):a.spot=none:=by
 unfold World.cell? at h
 split at h
 ·split at h
  ·cases h
  ·rename_i hs;simpa using hs
 ·cases h
theorem A3 {S:Nat->Nat->Prop} {k:IntKind} (b:Nat):∀ (l:List Int) (o:Nat),(∀ i,i < l.length->S b (o+i)/\w.cell? ⟨b,o+i,none⟩=some (.int k (l.getD i 0)))->fO S w 1 (l.map fun x=>[.int k x]) b o
 | [],o,_=>by simp [fO]
 | x :: l,o,h=>by
  have h0:=h 0 (by simp);simp only[map_cons,fO,d9,length_cons,length_nil,Nat.zero_add,and_true,true_and];refine⟨⟨h0.1,_,h0.2,rfl⟩,?_⟩;exact A3 b l (o+1) fun i hi=>by
   have:=h (i+1) (by simp;omega)
   rw[show o+1+i=o+(i+1) by omega];simpa using this
theorem JR {r:Reach} {b0 n:Nat} {t e:TypeId} {k:IntKind} {v:Value} {d:DataW H} {ps:List MemPlace} {ow:Value->Nat->Nat->Prop} (ht:P.underlying t=some (.slice e)) (he:P.underlying e=some (.int k)) (hc:P.cellsOf e=1)
  (hval:Value.okWide P w r b0 t v) (hd:DataW.Trod enc P w base spare held t v d ps) :
  ∃ l:List Int,aP (cx0 (fun _=>0) (fun _=>0) (fun b _=>b < w.heap.size) w n) ow (.sl .no 1 (l.map fun x=>[.int k x])) v:=by
 obtain⟨a0,len,cap,rfl⟩:=okWide_slice ht hval;obtain⟨fuel,hf⟩:=hd;rcases open_ints ht he hc hf with ⟨hcs,hx⟩ | ⟨a,len',cap',zs,hcs,_,hl,hm,hz,hx,hcell,hwz⟩
 ·simp [Value.cells] at hcs
  obtain⟨rfl,rfl,rfl⟩:=hcs;refine⟨[],?_⟩;simp only[aP,aQ,aE];exact⟨none,0,rfl,Nat.le_refl _,by simp,by simp,.inl rfl⟩
 ·simp [Value.cells] at hcs
  obtain⟨rfl,rfl,rfl⟩:=hcs;have hlen:len<=zs.length:=by rw[hz];split<;>omega
  refine⟨zs.take len,?_⟩;simp only[aP,aQ,aE];have hl2:((zs.take len).map fun x=>([.int k x]:List AV)).length=len:=by simp;omega
  refine⟨some a,cap,by rw[hl2],by rw[hl2];omega,by simp,by simp,?_⟩;by_cases h0:len=0
  ·left;subst h0;simp
  ·right
   have c0:=hcell 0 (by omega);have hsp:a.spot=none:=qN (by simpa [Addr.add] using c0);obtain⟨b,o,sp⟩:=a;simp only at hsp;subst hsp;refine⟨b,o,rfl,A3 b _ _ fun i hi=>?_⟩;have hi':i < len:=by simpa [Nat.lt_min] using (show i < (zs.take len).length from hi) |> fun h=>by simp at h;omega
   have ci:=hcell i (by omega);have e1:(⟨b,o,none⟩:Addr).add i=⟨b,o+i,none⟩:=by
    unfold Addr.add;split
    ·rename_i h;subst h;rfl
    ·rfl
   rw[e1] at ci;refine⟨World.block_lt_of_cell? w _ ci,?_⟩;show w.cell? _=_;rw[ci];simp [getD_eq_getElem?_getD,hi']
theorem OL {r:Reach} {b0 n:Nat} {t:TypeId} {k:IntKind} {v:Value} {d:DataW H} {ps:List MemPlace} {ow:Value->Nat->Nat->Prop} (ht:P.underlying t=some (.int k))
  (hval:Value.okWide P w r b0 t v) (hd:DataW.Trod enc P w base spare held t v d ps) :
  ∃ x:Int,(Lit.int k x).wf=true/\aP (cx0 (fun _=>0) (fun _=>0) (fun b _=>b < w.heap.size) w n) ow (.int k x) v:=by
 obtain⟨x,rfl,_,_,hw⟩:=open_int ht hval hd;exact⟨x,hw,by simp [aP,aQ,aE]⟩
end
end Go.Av
