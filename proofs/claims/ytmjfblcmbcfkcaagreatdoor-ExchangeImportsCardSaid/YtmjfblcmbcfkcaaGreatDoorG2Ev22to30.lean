/- A part of the frame (Ev22 Ev27 Ev28 Ev29 Ev30). No conditions. -/
import Derived.Test.YtmjfblcmbcfkcaaGreatDoorG2Ev19to21
import Derived.Lib.Bytealg
open List
set_option linter.unusedSimpArgs false
set_option linter.unusedVariables false
set_option linter.unusedSectionVars false
set_option maxRecDepth 100000
set_option maxHeartbeats 16000000
namespace Go.Av
variable [Gtab]
open Go.RowKit
section
variable {P:Program}
theorem XW {f:FuncId} {fn:Func} {C:Code} {nargs:Nat} {keep:Bool} {res:List ARes} (hfn:P.funcs[f]?=some fn) (hC:fn.body=some C) (hnt:nargs<=fn.ntmps) (hres:hJ P fn.results.toList res=true)
  (hname:(fn.name == "runtime.NumGoroutine")=false) {args:List AV} {sh sh':LL} {r:AV} (hlen:args.length=nargs)
  (hwp:∀ (E:Env) (g:Gh) (a:Act) (w:World),E.nt=fn.ntmps->E.n0=sh.length->Sim E g (lV args sh) a w ->
   C.wp P (fun e a w=>(e=.ret\/e=.normal)/\∃ σ,aU E σ a w/\yJ ⟨nargs,keep,.skip,res⟩ sh (some (.ret,σ))=some (r,sh')) a w) :
  yM P f/\iJ P f args sh r sh':=by
 refine⟨⟨fn,hfn,by rw[hC];rfl,hname⟩,?_⟩;intro kd β bs S0 O0 w vs hent hargs;obtain⟨⟨e1,e2⟩,e3,e4,e5,e6⟩:=hent;have hsz:vs.size=nargs:=by have:=hargs.length;simp at this;omega
 let E:Env:={ w0:=w,S0:=S0,β0:=β,bs0:=bs,O0:=O0,D0:=fun j=>match sh[j]? with | some c=>fW c | none=>false,n0:=sh.length,nt:=fn.ntmps }
 let g:Gh:={ β:=β,bs:=bs,lam:=fun _=>0,kd:=kd }
 have hSS:∀ b m,S0 b m->SS E g w b m:=fun b m hS=>.inl ⟨(e3 b m hS).1,hS⟩
 have hle0:Cx.le (cx0 β bs S0 w sh.length) (cx E g (lV args sh) w):=⟨fun b m hS=>⟨hSS b m hS,rfl⟩,Nat.le_refl _,fun _ _=>rfl,fun _ _=>rfl,fun s hs=>hs.elim⟩
 have hsim:Sim E g (lV args sh) { tmps:=vs++Array.replicate (fn.ntmps - vs.size) undef,defers:=[] } w:=by
  refine { size:=by show (vs++Array.replicate (fn.ntmps - vs.size) undef).size=fn.ntmps;simp;omega,defers:=rfl,slots:=?_,shr:=?_,shr0:=fun _ _=>⟨rfl,rfl⟩,shr1:=?_,dd:=?_,shrlt:=fun i hi=>(e2 i hi).1,shrk:=fun i hi=>(e2 i hi).2,loc:=fun s c hc=>by simp [lV] at hc,n0:=Nat.le_refl _,s0:=e3,o0:=e4,own0:=?_,os:=rfl,tape:=rfl,output:=rfl,hsize:=Nat.le_refl _,frame:=fun _ _ _ _=>rfl,sframe:=fun _ _ _=>rfl,gl:=e6 }
  ·intro t
   have h1:=DV hargs (fn.ntmps - vs.size) t;exact aQ.mono hle0 _ _ (fun _ _ _ h=>h.elim) h1
  ·intro i cells hi hd
   obtain⟨f1,f2⟩:=e1 i cells hi hd;exact⟨f1,f2.mono hle0 rfl (fun _ _ _ _ _ h=>h)⟩
  ·intro i hi hn
   have hi':i < sh.length:=hi;have hn':sh.length<=i:=hn;omega
  ·intro i hi hd
   have hi':i < sh.length:=hi;have hd':(match sh[i]? with | some c=>fW c | none=>false)=true:=hd;show sh[i]?=some aZ;rw[getElem?_eq_getElem hi'] at hd' ⊢;rw[jP.1 hd']
  ·intro b t k hk
   rcases Nat.lt_or_ge b w.heap.size with hb | hb
   ·exact .inr (e5 b t k hk hb)
   ·exact .inl hb
 refine calls_of_wp hfn hC (Code.wp_mono ?_ (hwp E g _ w rfl rfl hsim))
 rintro e a1 w1 ⟨hen,σ,⟨g1,hs1⟩,h⟩
 unfold yJ at h
 split at h
 ·cases h
 ·rename_i e' σ' hx hex
  simp only[Option.some.injEq,Prod.mk.injEq] at hex;obtain⟨_,rfl⟩:=hex
  split at h
  case h_2=>cases h
  rename_i xs hxs;unfold rZ at h
  split at h
  case isFalse=>cases h
  rename_i hall;obtain⟨hall,hkeep⟩:=hall;simp only[Option.some.injEq,Prod.mk.injEq] at h;obtain⟨hr,hsh'⟩:=h;have hn0:sh.length<=σ.sh.length:=hs1.n0;have hlen':sh'.length=if keep then σ.sh.length else sh.length:=by
   rw[<- hsh'];split
   ·rfl
   ·simp;omega
  have hshl:sh'.length<=σ.sh.length/\sh.length<=sh'.length:=by
   rw[hlen'];split<;>omega
  have hshget:∀ (i:Nat),i < sh'.length->sh'[i]?=σ.sh[i]?:=by
   intro i hi;rw[<- hsh'] at hi ⊢;split
   ·rfl
   ·rename_i hk
    rw[if_neg hk] at hi;rw[getElem?_take_of_lt (by simp at hi;omega)]
  have hβ0:∀ i,i < E.n0->E.β0 i < E.w0.heap.size:=fun i hi=>(e2 i hi).1
  have hD:∀ (j:Nat) (x:List AV),sh[j]?=some x->fW x=true->E.D0 j=true:=by
   intro j x hj hx;show (match sh[j]? with | some c=>fW c | none=>false)=true;rw[hj];exact hx
  obtain⟨us,hu1,hu2,hu3⟩:=lB hs1 (sh0:=sh) (k:=keep) (n:=sh'.length) hlen' rfl hβ0 hD hres hxs hall;have hrun:=uI (fn:=fn) hu1;have hm1:∀ b m,SS E g1 w1 b m->S1 S0 w w1 (kdF g1.kd g1.β sh'.length) b m:=SS.out hs1;have hfin:∃ v kd' β' bs',Ending.returned (MA us)=Ending.returned v/\After S0 O0 β bs w sh sh' r v kd' β' bs' w1:=by
   refine⟨_,kdF g1.kd g1.β sh'.length,g1.β,g1.bs,rfl,?_⟩
   refine { same:=fun i hi=>hs1.shr0 i hi,len:=hshl.2,shok:=⟨fun i cells hi hd=>?_,fun i hi=>?_⟩,rep:=?_,os:=hs1.os,tape:=hs1.tape,output:=hs1.output,size:=hs1.hsize,frame:=fun b hb hnb ho=>hs1.frame b hb hnb ho,sframe:=fun b o hS=>hs1.sframe b o hS,o0:=fun b k hk=>?_,own0:=fun b t k hk=>hs1.own0 b t k (mW.1 hk),new:=fun i h1 h2=>?_,deads:=fun i hi=>?_ }
   ·have hil:=(List.getElem?_eq_some_iff.1 hi).1
    have hi':σ.sh[i]?=some cells:=by rw[<- hshget i hil];exact hi
    obtain⟨f1,f2,f3⟩:=hs1.shr i cells hi' hd;refine⟨by rw[vM hil];exact f1,?_⟩;have how:∀ j z v m,eJ g1.kd w1 (.cell i j) v z m->eJ (kdF g1.kd g1.β sh'.length) w1 (.cell i j) v z m:=by
     rintro j z v m ⟨A,c,q1,q2⟩
     refine⟨A,c,q1,?_⟩;rcases q2 with q2 | ⟨b,ar,tt,q3,q4,q5,q6⟩
     ·exact .inl q2
     ·exact .inr ⟨b,ar,tt,q3,q4,q5,mW.2 q6⟩
    refine⟨fun hbk=>?_,?_⟩
    ·obtain⟨arr,ty,fz,q1,q2,q3,q4⟩:=f2 hbk
     refine⟨arr,ty,fz,q1,q2,q3,fun j x hx=>?_⟩;obtain⟨v,q5,q6⟩:=q4 j x hx;refine⟨v,q5,?_⟩;by_cases hk:keep=true
     ·have hln:sh'.length=σ.sh.length:=by rw[hlen',if_pos hk]
      have q7:=(o5 (c:=cx E g1 σ w1)).2 q6;refine bB.mono (c:=(cx E g1 σ w1).noloc) (c':=cx0 g1.β g1.bs (S1 S0 w w1 (kdF g1.kd g1.β sh'.length)) w1 sh'.length) ⟨fun b m hS=>⟨hm1 b m hS,rfl⟩,by show σ.sh.length<=sh'.length;omega,fun _ _=>rfl,fun _ _=>rfl,fun s hs=>hs.elim⟩ _ _ (fun z l _=>how _ _ _ _) q7
     ·have hall2:((σ.sh.take sh.length).all fun c=>c.all (iN sh.length))=true:=by
       rcases hkeep with hk' | hk'
       ·exact absurd hk' hk
       ·exact hk'
      have hln:sh'.length=sh.length:=by rw[hlen',if_neg hk]
      refine qV (c:=cx E g1 σ w1) (n:=sh.length) (fun b m hS=>⟨hm1 b m hS,rfl⟩) rfl rfl hln ?_ (fun z l _=>how _ _ _ _) q6;rw[all_eq_true] at hall2;have h8:=hall2 cells (mem_iff_getElem?.2 ⟨i,by rw[getElem?_take_of_lt (by omega)];exact hi'⟩);rw[all_eq_true] at h8;exact h8 x (mem_iff_getElem?.2 ⟨j,hx⟩)
    ·unfold o6 at f3 ⊢
     split
     ·obtain⟨es,cl,q1,q2⟩:=f3
      exact⟨es,cl,q1,nE (c:=cx E g1 σ w1) (c':=cx0 g1.β g1.bs (S1 S0 w w1 (kdF g1.kd g1.β sh'.length)) w1 sh'.length) (fun b m hS=>⟨hm1 b m hS,rfl⟩) q2⟩
     ·trivial
   ·obtain⟨j,hj⟩:=hs1.shrk i (by omega)
    exact⟨hs1.shrlt i (by omega),j,by rw[vM hi];exact hj⟩
   ·rw[<- hr]
    match xs,us,hu2,hu3 with
    | [x],[v],hu2,hu3=>exact aR.topT (hu3 x (by simp)) hu2.1
    | [],[],hu2,_=>exact⟨#[],rfl,trivial⟩
    | x :: y :: xs,v :: u :: us,hu2,_=>exact⟨(v :: u :: us).toArray,rfl,hu2⟩
    | [],_ :: _,hu2,_=>simp [aL] at hu2
    | _ :: _,[],hu2,_=>simp [aL] at hu2
    | [_],_ :: _ :: _,hu2,_=>simp [aL] at hu2
    | _ :: _ :: _,[_],hu2,_=>simp [aL] at hu2
   ·obtain⟨_,_,t,k',q1,q2⟩:=hs1.o0 b k hk
    exact⟨t,k',mW.2 q1,q2⟩
   ·rcases hs1.shr1 i (by omega) h1 with q | ⟨j,q1,q2,q3,q4⟩
    ·exact .inl q
    ·have hjl:j < sh.length:=q1
     refine .inr ⟨j,q1,q2,fun hjd=>?_,?_⟩
     ·have:=hD j _ hjd (jP.2 rfl)
      rw[q3] at this;cases this
     ·rw[hshget j (by omega)];exact q4
   ·have hil:=(List.getElem?_eq_some_iff.1 hi).1
    rw[hshget i (by omega)];exact hs1.dd i hil (hD i _ hi (jP.2 rfl))
  rcases hen with rfl | rfl
  ·exact⟨hs1.defers,_,hrun,hfin⟩
  ·exact⟨hs1.defers,_,hrun,hfin⟩
 ·cases h
noncomputable abbrev GN:aO:=Gx (fun _ _ _=>none) (fun _=>none)
theorem kX (hmix:P.follows .mixedOrders=true) {E:Env} {a:Act} {w:World} {σ σ':AS} {C:Code} {c:ACode} {e:AX} {Q:Exit->Act->World->Prop} (hok:eK P E.nt C c=true) (hx:aC GN c σ=some (e,σ')) (hp:aU E σ a w)
  (hQ:∀ a w,aU E σ' a w->Q (xp e) a w):C.wp P Q a w:=by
 obtain⟨n,hn⟩:=i7 c σ _ hx;have hG:iA P (qF (fun _ _ _=>none) (fun _=>none) n):=rB hmix (fun _ _ _ _ _ h=>by cases h) (fun _ _ h=>by cases h) n;exact fY hmix hG n C c σ σ' e a w Q hok (hn n (Nat.le_refl _)) hp hQ
theorem KH {E:Env} {G:aO} {ops:Array Oper} {a:Act} {w:World} {σ σ1:AS} {o:Oper} {ao:AOper} {os:List Oper} {Q:Exit->Act->World->Prop} (hG:iA P G) (hp:aU E σ a w) (hok:okO P E.nt ops o ao=true) (h1:cI G ao σ=some σ1)
  (hk:∀ a w,aU E σ1 a w->wpList P ops Q os a w):wpList P ops Q (o :: os) a w:=by
 obtain⟨g,hs⟩:=hp;have hst:=qS (Q:=Q) hG hs hok h1;unfold wpList;split
 ·rename_i hw
  rw[if_pos hw] at hst;exact .inl (Oper.wp_mono (fun a w hp=>hk a w hp) hst)
 ·rename_i hw
  rw[if_neg hw] at hst;exact hk _ _ hst
def kY (z:Nat):ACode:=.reg false [] [⟨some 2,.mv,[.c (.sl .full z [])],.none,none,none⟩] []
def SK (z bytes:Nat) (zero:List AV):ACode:=.seq (.reg false [] [
 ⟨some 5,.mks z zero 0 [],[],.none,none,none⟩,
 ⟨some 6,.mv,[.t 0],.none,none,none⟩,
 ⟨some 7,.appS false z bytes,[.t 5,.t 6],.sh,none,none⟩,
 ⟨some 2,.mvo,[.t 7],.none,some 7,none⟩] []) .ret
def vO (P:Program) (x:Operand):Op->Bool
 | .binOp .eql t y (.const (.slice none 0 0)) _=>(match x,y with | .tmp i,.tmp j=>i == j | _,_=>false) && (match P.underlying t with | some (.slice _)=>true | _=>false)
 | _=>false
def zHC (P:Program) (f:FuncId) (z bytes:Nat) (zero:List AV):Bool:=
 match P.funcs[f]? with
 | some fn=>(match fn.body with
  | some (.seq c0 (.seq (.seq (.region _ ops false) (.cond (.tmp 4) x .skip)) rest)) =>
   eK P fn.ntmps c0 (kY z) && (match ops.toList with
     | [o3,o4]=>okO P fn.ntmps ops o3 ⟨some 3,.mv,[.t 0],.none,none,none⟩ && o4.dst == some 4 && o4.guard.isNone && vO P (.tmp 3) o4.op
     | _=>false) && eK P fn.ntmps x (.seq (kY z) .ret) && eK P fn.ntmps rest (SK z bytes zero)
  | _=>false) && decide (8<=fn.ntmps) && hJ P fn.results.toList [.tmpD 2] && !(fn.name == "runtime.NumGoroutine")
 | none=>false
theorem CO {E:Env} {g:Gh} {σ:AS} {a:Act} {w:World} {o:Oper} {Q:Exit->Act->World->Prop} {x:Nat} (hs:Sim E g σ a w) (hd:∀ d,o.dst=some d->d < E.nt) (hop:vO P (.tmp x) o.op=true) {A:Option Addr} {n c:Nat}
  (hx:a.eval (.tmp x)=.slice A n c):o.wp P a w (aU E (put σ o.dst (.bool A.isNone))) Q:=by
 unfold vO at hop
 split at hop
 ·rename_i t y t' hop'
  simp only[Bool.and_eq_true] at hop;obtain⟨h1,h2⟩:=hop
  cases y<;>simp at h1
  subst h1
  split at h2
  ·rename_i e he
   refine aH hs hd (val:=.bool A.isNone) ?_ rfl rfl;have hq:∀ w,(Op.equal t (.slice A n c) (.slice none 0 0)).run P w=.ok A.isNone w:=by
    intro w;have h:∀ d:Nat,(Op.equalIn (d+1) t (.slice A n c) (.slice none 0 0)).run P w=.ok A.isNone w:=fun d=>by
     simp only[Op.equalIn]
     cases A<;>simp [run_underlying he]
    exact h _
   have hx':a.eval (.tmp x)=.slice A n c:=hx;have hc:a.eval (.const (.slice none 0 0))=.slice none 0 0:=rfl;have hg:(eqGuard .eql t (.tmp x) (.const (.slice none 0 0)) (.slice A n c) (.slice none 0 0)).run P w=.ok () w:=rfl;have hb:(binOp .eql t (.slice A n c) (.slice none 0 0)).run P w=.ok (.bool A.isNone) w:=by
    simp only[binOp];simp [hq]
   simp [execOp,hop',hx',hc,hg,hb]
  ·cases h2
 ·cases hop
def YL (z:Nat) (l:LL) (sh:LL):AV × List (List AV):=
 match l with
 | []=>(.sl .full z [],sh)
 | r :: l=>(.ss sh.length 0 (l.length+1) z,sh++[(r :: l).flatten])
theorem mks0 (z:Nat) (zero:List AV):iE z zero 0 [] []=some (.sl .full z []):=rfl
theorem OH (z bytes z':Nat) (sh:LL):gS z bytes sh (some []) (.sl .full z' [])=some (.sl .full z [],sh):=by simp [gS]
end
def zKQ (z bytes:Nat):List AV->LL->Option (AV × LL)
 | [.sl _ z' l],sh=>if z'=z/\cU bytes l.length=true then some (YL z l sh) else none
 | _,_=>none
end Go.Av
namespace Go.Av
variable [Gtab]
open Go.RowKit
section
variable {P:Program}
theorem After.same0 {sh:LL} {kd:Nat->BK} {β bs:Nat->Nat} {S0:Nat->Nat->Prop} {O0:Nat->Option Nat} {w:World} (h:pE sh kd β bs S0 O0 w) {r:AV} {v:Value} (hr:aQ (cx0 β bs (S1 S0 w w kd) w sh.length) aS r v) :
  After S0 O0 β bs w sh sh r v kd β bs w:=by
 obtain⟨⟨e1,e2⟩,e3,e4,e5,_⟩:=h;have hle:Cx.le (cx0 β bs S0 w sh.length) (cx0 β bs (S1 S0 w w kd) w sh.length):=⟨fun b o hS=>⟨.inl hS,rfl⟩,Nat.le_refl _,fun _ _=>rfl,fun _ _=>rfl,fun s hs=>hs.elim⟩
 refine { same:=fun _ _=>⟨rfl,rfl⟩,len:=Nat.le_refl _,shok:=⟨fun i cells hi hd=>?_,e2⟩,rep:=hr,os:=rfl,tape:=rfl,output:=rfl,size:=Nat.le_refl _,frame:=fun _ _ _ _=>rfl,sframe:=fun _ _ _=>rfl,o0:=fun b k hk=>?_,own0:=fun b t k hk=>?_,new:=fun i h1 h2=>by omega,deads:=fun _ h=>h }
 ·obtain⟨f1,f2⟩:=e1 i cells hi hd
  exact⟨f1,f2.mono hle rfl (fun _ _ _ _ _ h=>h)⟩
 ·exact (e4 b k hk).2.2
 ·rcases Nat.lt_or_ge b w.heap.size with hb | hb
  ·exact .inr (e5 b t k hk hb)
  ·exact .inl hb
def ibB (f0:Nat):aO:=fun f args sh=>if f=f0 then (match args with
 | [.str s,.int .u8 c]=>some (.int .i64 (Lib.indexByte s c.toNat.toUInt8),sh)
 | _=>none) else none
theorem JU {f0:FuncId} {fn:Func} (hf:P.funcs[f0]?=some fn) (hname:(fn.name == "runtime.NumGoroutine")=false) (hb:fn.body.isNone=true) (hn:Extern.findNext fn=none)
  (he:Extern.find fn=some Extern.BytealgIndexByte.indexByte):iA P (ibB f0):=by
 intro f args sh r sh' h;unfold ibB at h
 split at h
 ·rename_i hff
  subst hff
  split at h
  ·rename_i s c
   simp only[Option.some.injEq,Prod.mk.injEq] at h;obtain⟨rfl,rfl⟩:=h
   refine .inr ?_
   intro kd β bs S0 O0 w vs hent hargs;obtain⟨xs⟩:=vs;have hl2:=hargs.length;simp at hl2
   match xs,hl2 with
   | [u,v],_ =>
    obtain⟨h1,h2,_⟩:=hargs;obtain⟨b,rfl,rfl⟩:∃ b,u=.string b/\b.data.toList=s:=h1;have h2':v=.int .u8 c:=h2;subst h2';refine⟨.int .i64 (Lib.indexByte b.data.toList c.toNat.toUInt8),w,kd,β,bs,?_,After.same0 hent rfl⟩;rw[run_callFunc_extern hf hname hb hn he]
    have:(#[.string b,.int .u8 c]:Array Value)=⟨[.string b,.int .u8 c]⟩:=rfl
    rw[<- this];show ((Extern.BytealgIndexByte.indexByte #[.string b,.int .u8 c]).run P w).andThen _=_;rw[Lib.run_indexByteString];rfl
  ·cases h
 ·cases h
end
end Go.Av
namespace Go.Av
@[go_sem] theorem zKD {α:Type} (a b:α) (l:List α):(a :: l).set 0 b=b :: l:=(rfl)
@[go_sem] theorem zKC {α:Type} (a b:α) (l:List α) (n:Nat):(a :: l).set (n+1) b=a :: l.set n b:=(rfl)
@[go_sem] theorem zIA {α:Type} (n:Nat):([]:List α).take n=[]:=take_nil
@[go_sem] theorem zKN (p:Prop):(p/\False)=False:=and_false p
@[go_sem] theorem zKL (p:Prop):(p/\True)=p:=and_true p
@[go_sem] theorem zKB (p:Prop):(True/\p)=p:=true_and p
@[go_sem] theorem zLK (p:Prop) [Decidable p]:(decide p=true)=p:=decide_eq_true_eq
@[go_sem] theorem zLM {α:Type} [BEq α] [ReflBEq α] (a:α):(a == a)=true:=beq_self_eq_true a
@[go_sem] theorem zLL {α:Type} [BEq α] [LawfulBEq α] (a:α):(a != a)=false:=bne_self_eq_false a
@[go_sem] theorem zKI {α β:Type} (f:α->β) (a:α) (l:List α):(a :: l).map f=f a :: l.map f:=(rfl)
@[go_sem] theorem zKH {α β:Type} (f:α->β):([]:List α).map f=[]:=(rfl)
@[go_sem] theorem e_bt (b:Bool):(b && true)=b:=Bool.and_true b
@[go_sem] theorem e_tb (b:Bool):(true && b)=b:=Bool.true_and b
@[go_sem] theorem e_bf (b:Bool):(b && false)=false:=Bool.and_false b
@[go_sem] theorem e_fb (b:Bool):(false && b)=false:=Bool.false_and b
@[go_sem] theorem e_bb (b:Bool):(b && b)=b:=Bool.and_self b
@[go_sem] theorem zKM (p:Prop):(p/\p)=p:=and_self p
@[go_sem] theorem e_ne {α:Type} (a b:α):(a≠b)=¬ (a=b):=(rfl)
@[go_sem] theorem e_nt:(¬ True)=False:=not_true_eq_false
@[go_sem] theorem e_nf:(¬ False)=True:=not_false_eq_true
@[go_sem] theorem e_df (h:Decidable False):@decide False h=false:=decide_false h
@[go_sem] theorem e_dt (h:Decidable True):@decide True h=true:=decide_true h
@[go_sem] theorem e_ft:(false=true)=False:=Bool.false_eq_true
@[go_sem] theorem zKG {α β:Type} (f:α->β) (a:α):(some a).map f=some (f a):=(rfl)
@[go_sem] theorem zIB {α β:Type} (f:α->Option β) (a:α):(some a).bind f=f a:=(rfl)
@[go_sem] theorem zKK {α:Type}:([]:List α).length=0:=(rfl)
@[go_sem] theorem zKJ {α:Type} (a:α) (l:List α):(a :: l).length=l.length+1:=(rfl)
@[go_sem] theorem zKO {α:Type} (l:List α):[]++l=l:=(rfl)
@[go_sem] theorem zKP {α:Type} (a:α) (l m:List α):(a :: l)++m=a :: (l++m):=(rfl)
@[go_sem] theorem zHZ (n:Nat):((n:Int)).toNat=n:=Int.toNat_natCast n
@[go_sem] theorem e_z (n:Nat):0+n=n:=Nat.zero_add n
@[go_sem] theorem e_zi (n:Int):0+n=n:=Int.zero_add n
@[go_sem] theorem zKE:(!true)=false:=(rfl)
@[go_sem] theorem zKF:(!false)=true:=(rfl)
@[go_sem] theorem zLI {n:Int} (h1:-9223372036854775808<=n) (h2:n<=9223372036854775807):IntKind.i64.wrap n=n:=w64 h1 h2
@[go_sem] theorem zLJ (o:Own) (z:Nat) (x:LL):aI (.sl o z x)=.sl (NU o) z x:=m9 o z x
end Go.Av
namespace Go.Av
variable [Gtab]
open Go.RowKit
section
variable {P:Program}
def sU (z bytes:Nat) (zero:List AV):ACode:=.seq (.reg false [] [
 ⟨some 5,.mks z zero 0 [],[],.none,none,none⟩,
 ⟨some 6,.mv,[.t 0],.none,none,none⟩,
 ⟨some 7,.app false z bytes,[.t 5,.t 6],.none,some 5,none⟩,
 ⟨some 2,.mvo,[.t 7],.none,some 7,none⟩] []) .ret
def sA (P:Program) (f:FuncId) (z bytes:Nat) (zero:List AV):Bool:=
 match P.funcs[f]? with
 | some fn=>(match fn.body with
  | some (.seq c0 (.seq (.seq (.region _ ops false) (.cond (.tmp 4) x .skip)) rest)) =>
   eK P fn.ntmps c0 (kY z) && (match ops.toList with
     | [o3,o4]=>okO P fn.ntmps ops o3 ⟨some 3,.mv,[.t 0],.none,none,none⟩ && o4.dst == some 4 && o4.guard.isNone && vO P (.tmp 3) o4.op
     | _=>false) && eK P fn.ntmps x (.seq (kY z) .ret) && eK P fn.ntmps rest (sU z bytes zero)
  | _=>false) && decide (8<=fn.ntmps) && hJ P fn.results.toList [.tmp 2] && !(fn.name == "runtime.NumGoroutine")
 | none=>false
theorem S9 {z bytes z':Nat} {l:LL} {o:Own} (hz:0 < z) (hzl:z'=z\/l=[]) (hb:cU bytes l.length=true):jL false z bytes (.sl .full z []) (.sl o z' l)=some (.sl .own z l):=by
 have hb':l.length*bytes<=140737488355328/\l.length<=4611686018427387904:=by simpa [cU] using hb
 cases l with
 | nil=>simp [jL,hz,jW]
 | cons a l =>
  have e:z'=z:=hzl.resolve_right (by simp);subst e;simp only[length_cons] at hb';simp [jL,hz,jW,hb']
theorem BJ (hmix:P.follows .mixedOrders=true) {f:FuncId} {z bytes:Nat} {zero:List AV} (hok:sA P f z bytes zero=true) (hz:0 < z) {m:Own} {z':Nat} {l:LL} {sh:LL}
  (hzl:z'=z\/l=[]) (hb:cU bytes l.length=true):yM P f/\iJ P f [.sl m z' l] sh (.sl .no z l) sh:=by
 unfold sA at hok
 split at hok
 case h_2=>cases hok
 rename_i fn hfn;simp only[Bool.and_eq_true,decide_eq_true_eq] at hok;obtain⟨⟨⟨hbody,hnt⟩,hres⟩,hname⟩:=hok
 split at hbody
 case h_2=>cases hbody
 rename_i c0 id ops x rest hC;simp only[Bool.and_eq_true] at hbody;obtain⟨⟨⟨h0,h1⟩,h2⟩,h3⟩:=hbody
 split at h1
 case h_2=>cases h1
 rename_i o3 o4 hops;simp only[Bool.and_eq_true] at h1;obtain⟨⟨⟨k1,k2⟩,k3⟩,k4⟩:=h1;have k2':o4.dst=some 4:=by simpa using k2
 have k3':o4.guard=none:=by simpa using k3
 refine XW (nargs:=1) (keep:=true) (res:=[.tmp 2]) hfn hC (by omega) hres (by simpa using hname) rfl ?_;intro E g a w hEt hn0 hs;rw[<- hEt] at h0 h2 h3 k1;have hG:iA P (qF (fun _ _ _=>none) (fun _=>none) 0):=fun _ _ _ _ _ h=>by cases h
 rw[C7] at hs;refine wp_seq ?_;have e0:aC GN (kY z) (ST (u9 0 [.sl m z' l]) [] sh)=some (.norm,ST [(0,.sl m z' l),(2,.sl .full z [])] [] sh):=by
  simp only[kY,u9,go_sem,set_cons_zero,set_cons_succ,take_succ_cons,and_false,false_and,and_true,true_and,Nat.reduceAdd,Nat.reduceEqDiff,Nat.reduceLT,↓reduceIte,decide_eq_true_eq,take_nil,beq_self_eq_true,bne_self_eq_false,take_zero,map_cons,map_nil,Int.reduceNeg,Bool.and_true,and_self,Bool.true_and,Bool.and_self,ne_eq,not_true_eq_false,decide_false,decide_true,Bool.false_eq_true,Nat.reduceAdd,Option.map_some,Option.map_none,Option.bind_some,Option.bind_none,length_nil,length_cons,append_nil,Bool.and_false,w64,m9,Int.cast_ofNat_Int,Int.reduceLT,Int.reduceAdd,Int.reduceSub,Int.reduceLE,Int.reduceEq,Int.reduceToNat,Int.toNat_natCast,Nat.reduceSub,Nat.reduceMul,Nat.reduceLeDiff,Nat.zero_add,Int.zero_add,not_false_eq_true,Bool.not_true,Bool.not_false,Bool.false_and,cons_append,nil_append]
 refine kX hmix h0 e0 ⟨g,hs⟩ fun a1 w1 hp1=>?_
 refine wp_seq ?_;refine wp_seq ?_;refine wp_region_list ?_;rw[hops];have e1:cI (qF (fun _ _ _=>none) (fun _=>none) 0) ⟨some 3,.mv,[.t 0],.none,none,none⟩ (ST [(0,.sl m z' l),(2,.sl .full z [])] [] sh)=some (put (ST [(0,.sl m z' l),(2,.sl .full z [])] [] sh) (some 3) (aI (.sl m z' l))):=rfl;have e1':put (ST [(0,.sl m z' l),(2,.sl .full z [])] [] sh) (some 3) (aI (.sl m z' l))=ST [(0,.sl m z' l),(2,.sl .full z []),(3,aI (.sl m z' l))] [] sh:=by
  simp only[put,ST,nW,eX];rfl
 rw[e1'] at e1;refine KH hG hp1 k1 e1 fun a2 w2 hp2=>?_
 obtain⟨g2,hs2⟩:=hp2;have hr3:∃ A c,a2.eval (.tmp 3)=.slice A l.length c/\(l=[]\/A.isNone=false):=by
  obtain⟨A,c,q1,_,_,q4⟩:=hs2.rdSl (x:=.tmp 3) (r:=.t 3) (m:=match m with | .own=>.no | m=>m) (z:=z') (l:=l) (by simp [okR]) (by cases m<;>rfl);refine⟨A,c,q1,?_⟩;rcases q4 with q4 | ⟨b,o,q4,_⟩
  ·exact .inl q4
  ·exact .inr (by rw[q4];rfl)
 obtain⟨A,c,q1,q2⟩:=hr3;refine wpList_plain k3' fun K hK=>?_
 refine Oper.wp_mono ?_ (CO hs2 (fun d hd=>by rw[k2'] at hd;injection hd with hd;rw[<- hd,hEt];exact Nat.lt_of_lt_of_le (by decide) hnt) k4 q1);intro a3 w3 hp3;rw[k2'] at hp3;refine hK _ _ ?_;show ((Code.cond (.tmp 4) x .skip).wp P _ _ _);have hp3':aU E (ST [(0,.sl m z' l),(2,.sl .full z []),(3,aI (.sl m z' l)),(4,.bool A.isNone)] [] sh) a3 w3:=by
  have:put (ST [(0,.sl m z' l),(2,.sl .full z []),(3,aI (.sl m z' l))] [] sh) (some 4) (.bool A.isNone)=ST [(0,.sl m z' l),(2,.sl .full z []),(3,aI (.sl m z' l)),(4,.bool A.isNone)] [] sh:=by
   simp only[put,ST,nW,eX];rfl
  rwa [<- this]
 have hb4:a3.eval (.tmp 4)=.bool A.isNone:=by
  obtain⟨g3,hs3⟩:=hp3';exact hs3.rdBool (r:=.t 4) (by simp [okR]) rfl
 refine wp_cond hb4 ?_;cases hA:A.isNone with
 | true =>
  have hl:l=[]:=by
   rcases q2 with q2 | q2
   ·exact q2
   ·rw[hA] at q2;cases q2
  subst hl;rw[hA] at hp3';have e2:aC GN (.seq (kY z) .ret) (ST [(0,.sl m z' []),(2,.sl .full z []),(3,aI (.sl m z' [])),(4,.bool true)] [] sh)=some (.ret,ST [(0,.sl m z' []),(2,.sl .full z []),(3,aI (.sl m z' [])),(4,.bool true)] [] sh):=by
   simp only[kY,go_sem,set_cons_zero,set_cons_succ,take_succ_cons,and_false,false_and,and_true,true_and,Nat.reduceAdd,Nat.reduceEqDiff,Nat.reduceLT,↓reduceIte,decide_eq_true_eq,take_nil,beq_self_eq_true,bne_self_eq_false,take_zero,map_cons,map_nil,Int.reduceNeg,Bool.and_true,and_self,Bool.true_and,Bool.and_self,ne_eq,not_true_eq_false,decide_false,decide_true,Bool.false_eq_true,Nat.reduceAdd,Option.map_some,Option.map_none,Option.bind_some,Option.bind_none,length_nil,length_cons,append_nil,Bool.and_false,w64,m9,Int.cast_ofNat_Int,Int.reduceLT,Int.reduceAdd,Int.reduceSub,Int.reduceLE,Int.reduceEq,Int.reduceToNat,Int.toNat_natCast,Nat.reduceSub,Nat.reduceMul,Nat.reduceLeDiff,Nat.zero_add,Int.zero_add,not_false_eq_true,Bool.not_true,Bool.not_false,Bool.false_and,cons_append,nil_append]
  refine kX hmix h2 e2 hp3' fun a4 w4 hp4=>?_
  exact⟨.inl rfl,_,hp4,by simp [yJ,eQ,uX,iQ,rZ,lP,wR,aI,ST,aE,fE]⟩
 | false =>
  rw[hA] at hp3';refine wp_skip ?_;have ha:∀ o:Own,jL false z bytes (.sl .full z []) (.sl o z' l)=some (.sl .own z l):=fun o=>S9 hz hzl hb
  cases l with
  | nil =>
   have e2:aC GN (sU z bytes zero) (ST [(0,.sl m z' []),(2,.sl .full z []),(3,aI (.sl m z' [])),(4,.bool false)] [] sh)=some (.ret,ST [(0,.sl m z' []),(2,.sl .own z []),(3,aI (.sl m z' [])),(4,.bool false),(5,.sl .full z []),(6,aI (.sl m z' [])),(7,.sl .no z [])] [] sh):=by
    simp only[sU,mks0,ha,go_sem,set_cons_zero,set_cons_succ,take_succ_cons,and_false,false_and,and_true,true_and,Nat.reduceAdd,Nat.reduceEqDiff,Nat.reduceLT,↓reduceIte,decide_eq_true_eq,take_nil,beq_self_eq_true,bne_self_eq_false,take_zero,map_cons,map_nil,Int.reduceNeg,Bool.and_true,and_self,Bool.true_and,Bool.and_self,ne_eq,not_true_eq_false,decide_false,decide_true,Bool.false_eq_true,Nat.reduceAdd,Option.map_some,Option.map_none,Option.bind_some,Option.bind_none,length_nil,length_cons,append_nil,Bool.and_false,w64,m9,Int.cast_ofNat_Int,Int.reduceLT,Int.reduceAdd,Int.reduceSub,Int.reduceLE,Int.reduceEq,Int.reduceToNat,Int.toNat_natCast,Nat.reduceSub,Nat.reduceMul,Nat.reduceLeDiff,Nat.zero_add,Int.zero_add,not_false_eq_true,Bool.not_true,Bool.not_false,Bool.false_and,cons_append,nil_append]
   refine kX hmix h3 e2 hp3' fun a4 w4 hp4=>?_
   exact⟨.inl rfl,_,hp4,by simp [yJ,eQ,uX,iQ,rZ,lP,wR,aI,ST,aE,fE]⟩
  | cons r l =>
   have hzz:z'=z:=by simpa using hzl
   subst hzz;have hb':cU bytes (l.length+1)=true:=hb;have e2:aC GN (sU z' bytes zero) (ST [(0,.sl m z' (r :: l)),(2,.sl .full z' []),(3,aI (.sl m z' (r :: l))),(4,.bool false)] [] sh)=some (.ret,ST [(0,.sl m z' (r :: l)),(2,.sl .own z' (r :: l)),(3,aI (.sl m z' (r :: l))),(4,.bool false),(5,.sl .full z' []),(6,aI (.sl m z' (r :: l))),(7,.sl .no z' (r :: l))] [] sh):=by
    cases m<;>simp only[sU,mks0,ha,go_sem,set_cons_zero,set_cons_succ,take_succ_cons,and_false,false_and,and_true,true_and,Nat.reduceAdd,Nat.reduceEqDiff,Nat.reduceLT,↓reduceIte,decide_eq_true_eq,take_nil,beq_self_eq_true,bne_self_eq_false,take_zero,map_cons,map_nil,Int.reduceNeg,Bool.and_true,and_self,Bool.true_and,Bool.and_self,ne_eq,not_true_eq_false,decide_false,decide_true,Bool.false_eq_true,Nat.reduceAdd,Option.map_some,Option.map_none,Option.bind_some,Option.bind_none,length_nil,length_cons,append_nil,Bool.and_false,w64,m9,Int.cast_ofNat_Int,Int.reduceLT,Int.reduceAdd,Int.reduceSub,Int.reduceLE,Int.reduceEq,Int.reduceToNat,Int.toNat_natCast,Nat.reduceSub,Nat.reduceMul,Nat.reduceLeDiff,Nat.zero_add,Int.zero_add,not_false_eq_true,Bool.not_true,Bool.not_false,Bool.false_and,cons_append,nil_append,hz,hb']
   refine kX hmix h3 e2 hp3' fun a4 w4 hp4=>?_
   exact⟨.inl rfl,_,hp4,by simp [yJ,eQ,uX,iQ,rZ,lP,wR,aI,ST,aE,fE]⟩
end
def FH (z bytes:Nat):List AV->LL->Option (AV × LL)
 | [.sl _ z' l],sh=>if z'=z/\cU bytes l.length=true then some (.sl .no z l,sh) else none
 | _,_=>none
theorem yK {P:Program} (hmix:P.follows .mixedOrders=true) {f:FuncId} {z bytes:Nat} {zero:List AV} (hok:sA P f z bytes zero=true) (hz:0 < z) {args:List AV} {sh sh':LL} {r:AV}
  (h:FH z bytes args sh=some (r,sh')):yM P f/\iJ P f args sh r sh':=by
 unfold FH at h
 split at h
 ·rename_i m z' l
  split at h
  ·rename_i hc
   simp only[Option.some.injEq,Prod.mk.injEq] at h
   have:=BJ (m:=m) (sh:=sh) hmix hok hz (.inl hc.1) hc.2
   rw[<- h.1,<- h.2];exact this
  ·cases h
 ·cases h
end Go.Av
namespace Go.Av
variable [Gtab]
open Go.RowKit
def jB (n:Nat):AV->Bool
 | .ptr o _=>decide (o < n)
 | .ss o _ _ _=>decide (o < n)
 | .int .. | .bool _ | .str _ | .nilp | .agg _ | .sl ..=>true
 | _=>false
theorem J7 {c:Cx} {n:Nat} {x:AV} {v:Value} (hlt:jB n x=true) (r:aQ c aS x v):aQ { c with shn:=n } aS x v:=by
 cases x with
 | ptr o off =>
  have r':o < c.shn/\v=.pointer (some ⟨c.β o,off,none⟩):=r;exact⟨by simpa [jB] using hlt,r'.2⟩
 | ss o off m z =>
  have r':o < c.shn/\∃ cp,v=.slice (some ⟨c.β o,off,none⟩) m cp/\m<=cp/\ssz off cp z (c.bs o):=r;exact⟨by simpa [jB] using hlt,r'.2⟩
 | int=>exact r
 | bool=>exact r
 | str=>exact r
 | nilp=>exact r
 | agg=>exact r
 | sl m z l=>cases m<;>exact r
 | any=>simp [jB] at hlt
 | undef=>simp [jB] at hlt
 | loc=>simp [jB] at hlt
 | ip=>simp [jB] at hlt
 | fn=>simp [jB] at hlt
 | tup=>simp [jB] at hlt
 | mp=>simp [jB] at hlt
 | mapv=>simp [jB] at hlt
 | aggR=>simp [jB] at hlt
theorem rG {c:Cx} {n:Nat}:∀ {xs:List AV} {vs:List Value},xs.all (jB n)=true->aL (aQ c aS) xs vs->aL (aQ { c with shn:=n } aS) xs vs
 | [],[],_,_=>trivial
 | x :: xs,v :: vs,h,r=>by
  rw[all_cons,Bool.and_eq_true] at h;exact⟨J7 h.1 r.1,rG h.2 r.2⟩
 | [],_ :: _,_,r=>by simp [aL] at r
 | _ :: _,[],_,r=>by simp [aL] at r
theorem xH {sh sh':LL} {r:AV} (hl:sh'.length=sh.length) (hsh:sh.all (fun c=>c.all (iN sh.length))=true) (hD:∀ c∈sh,c≠aZ) (R:LL) {kd:Nat->BK} {β bs:Nat->Nat} {S0:Nat->Nat->Prop} {O0:Nat->Option Nat} {w:World} (hE:pE (sh++R) kd β bs S0 O0 w) :
  ∃ kd1 O1,pE sh kd1 β bs S0 O1 w/\∀ v kd' β' bs' w',After S0 O1 β bs w sh sh' r v kd' β' bs' w'->∃ kd2,After S0 O0 β bs w (sh++R) (sh'++R) r v kd2 β bs w':=by
 obtain⟨⟨e1,e1'⟩,e2,e3,e4,e5⟩:=hE;have hlen:sh.length<=(sh++R).length:=by simp
 have hget:∀ {i:Nat} {c:List AV},sh[i]?=some c->(sh++R)[i]?=some c:=fun {i c} hi=>by
  rw[getElem?_append_left (List.getElem?_eq_some_iff.1 hi).1];exact hi
 have hlive:∀ i,i < sh.length->kd (β i)=.shr i:=fun i hi=>by
  have hg:sh[i]?=some sh[i]:=getElem?_eq_getElem hi;exact (e1 i _ (hget hg) (hD _ (mem_of_getElem? hg))).1
 let RO:Nat->Prop:=fun b=>∃ i j k,kd b=.own (.cell i j) k/\sh.length<=i
 have hnRO:∀ {b i:Nat},kd b=.shr i->¬ RO b:=by
  rintro b i hb ⟨_,_,_,h1,_⟩
  rw[hb] at h1;cases h1
 classical
 let kd1:Nat->BK:=fun b=>if RO b then .stab else kd b
 let O1:Nat->Option Nat:=fun b=>if RO b then none else O0 b
 have kd1n:∀ {b},¬ RO b->kd1 b=kd b:=fun {b} hb=>if_neg hb
 have O1n:∀ {b},¬ RO b->O1 b=O0 b:=fun {b} hb=>if_neg hb
 have O1s:∀ {b k},O1 b=some k->¬ RO b/\O0 b=some k:=fun {b k} hb=>by
  by_cases q:RO b
  ·have:O1 b=none:=if_pos q
   rw[this] at hb;cases hb
  ·exact⟨q,(O1n q).symm.trans hb⟩
 have kd1s:∀ {b t k},kd1 b=.own t k->¬ RO b/\kd b=.own t k:=fun {b t k} hb=>by
  by_cases q:RO b
  ·have:kd1 b=.stab:=if_pos q
   rw[this] at hb;cases hb
  ·exact⟨q,(kd1n q).symm.trans hb⟩
 have hE1:pE sh kd1 β bs S0 O1 w:=by
  refine⟨⟨fun i cells hi hd=>?_,fun i hi=>?_⟩,fun b o hS=>?_,fun b k hk=>?_,fun b t k hk hb=>?_,e5⟩
  ·obtain⟨k1,k2,k3⟩:=e1 i cells (hget hi) hd
   have hil:i < sh.length:=(List.getElem?_eq_some_iff.1 hi).1;refine⟨(kd1n (hnRO k1)).trans k1,fun hbk=>?_,?_⟩
   ·obtain⟨arr,ty,fz,q1,q2,q3,q4⟩:=k2 hbk
    refine⟨arr,ty,fz,q1,q2,q3,fun j x hx=>?_⟩;obtain⟨v,q5,q6⟩:=q4 j x hx;refine⟨v,q5,qV (c:=cx0 β bs S0 w (sh++R).length) (n:=sh.length) (fun b m hS=>⟨hS,rfl⟩) rfl rfl rfl ?_ ?_ q6⟩
    ·rw[all_eq_true] at hsh
     have h8:=hsh cells (mem_of_getElem? hi);rw[all_eq_true] at h8;exact h8 x (mem_of_getElem? hx)
    ·rintro z l hxe ⟨A,c,p1,p2⟩
     refine⟨A,c,p1,?_⟩;rcases p2 with p2 | ⟨b,ar,tt,p3,p4,p5,p6⟩
     ·exact .inl p2
     ·refine .inr ⟨b,ar,tt,p3,p4,p5,?_⟩
      rw[kd1n]
      ·exact p6
      ·rintro ⟨i',j',k',p7,p8⟩
       rw[p6] at p7;cases p7;omega
   ·unfold o6 at k3 ⊢
    split
    ·obtain⟨es,cl,q1,q2⟩:=k3
     exact⟨es,cl,q1,nE (c:=cx0 β bs S0 w (sh++R).length) (c':=cx0 β bs S0 w sh.length) (fun b m hS=>⟨hS,rfl⟩) q2⟩
    ·trivial
  ·exact⟨(e1' i (by omega)).1,i,(kd1n (hnRO (hlive i hi))).trans (hlive i hi)⟩
  ·obtain⟨k1,k2,k3⟩:=e2 b o hS
   exact⟨k1,fun i hi=>k2 i (by omega),fun k hk=>k3 k (O1s hk).2⟩
  ·obtain⟨q,hk⟩:=O1s hk
   obtain⟨k1,k2,t,k',k3,k4⟩:=e3 b k hk;exact⟨k1,fun i hi=>k2 i (by omega),t,k',(kd1n q).trans k3,k4⟩
  ·obtain⟨q,hk⟩:=kd1s hk
   rw[O1n q];exact e4 b t k hk hb
 refine⟨kd1,O1,hE1,fun v kd' β' bs' w' A=>?_⟩
 let Q:Nat->Prop:=fun b=>b < w.heap.size/\(∀ i,i < sh.length->β i≠b)/\O1 b=none
 let kd2:Nat->BK:=fun b=>if Q b then kd b else kd' b
 have kd2q:∀ {b},Q b->kd2 b=kd b:=fun {b} hb=>if_pos hb
 have kd2n:∀ {b},¬ Q b->kd2 b=kd' b:=fun {b} hb=>if_neg hb
 have hQsh:∀ i,i < sh.length->¬ Q (β i):=fun i hi q=>q.2.1 i hi rfl
 have hQown:∀ {b t k},kd' b=.own t k->¬ Q b:=fun {b t k} hb q=>by
  rcases A.own0 b t k hb with q1 | q1
  ·have:=q.1;omega
  ·rw[q.2.2] at q1;cases q1
 have hSm:∀ b o,S1 S0 w w' kd' b o->S1 S0 w w' kd2 b o:=by
  rintro b o (q | ⟨q1,q2,q3⟩ | ⟨q1,t,k,q2,q3⟩)
  ·exact .inl q
  ·exact .inr (.inl ⟨q1,q2,(kd2n (fun q=>by have:=q.1;omega)).trans q3⟩)
  ·exact .inr (.inr ⟨q1,t,k,(kd2n (hQown q2)).trans q2,q3⟩)
 have hle1:Cx.le (cx0 β' bs' (S1 S0 w w' kd') w' sh'.length) (cx0 β bs (S1 S0 w w' kd2) w' (sh'++R).length):=
  ⟨fun b o hS=>⟨hSm b o hS,rfl⟩,by show sh'.length<=(sh'++R).length;simp,fun i hi=>(A.same i (by have:i < sh'.length:=hi;omega)).1.symm,fun i hi=>(A.same i (by have:i < sh'.length:=hi;omega)).2.symm,fun s hs=>hs.elim⟩
 have hle2:Cx.le (cx0 β bs S0 w (sh++R).length) (cx0 β bs (S1 S0 w w' kd2) w' (sh'++R).length):=
  ⟨fun b o hS=>⟨.inl hS,A.sframe b o hS⟩,by show (sh++R).length<=(sh'++R).length;simp [hl],fun _ _=>rfl,fun _ _=>rfl,fun s hs=>hs.elim⟩
 have hheap:∀ {b},Q b->w'.heap[b]?=w.heap[b]?:=fun {b} q=>A.frame b q.1 q.2.1 q.2.2
 have hRget:∀ {i:Nat},sh.length<=i->(sh'++R)[i]?=(sh++R)[i]?:=fun {i} hi=>by
  rw[getElem?_append_right (by omega),getElem?_append_right hi,hl]
 refine⟨kd2,fun _ _=>⟨rfl,rfl⟩,by simp [hl],⟨fun i cells hi hd=>?_,fun i hi=>?_⟩,?_,A.os,A.tape,A.output,A.size,fun b hb hn ho=>?_,A.sframe,fun b k hk=>?_,fun b t k hk=>?_,fun i h1 h2=>?_,fun i hi=>?_⟩
 ·by_cases hlt:i < sh.length
  ·rw[getElem?_append_left (by omega)] at hi
   obtain⟨k1,k2⟩:=A.shok.1 i cells hi hd;obtain⟨s1,s2⟩:=A.same i hlt;rw[s1] at k1 k2;rw[s2] at k2;refine⟨(kd2n (hQsh i hlt)).trans k1,k2.mono hle1 rfl ?_⟩
   rintro j z l v hx ⟨A',c,p1,p2⟩
   refine⟨A',c,p1,?_⟩;rcases p2 with p2 | ⟨b,ar,tt,p3,p4,p5,p6⟩
   ·exact .inl p2
   ·exact .inr ⟨b,ar,tt,p3,p4,p5,(kd2n (hQown p6)).trans p6⟩
  ·rw[hRget (by omega)] at hi
   obtain⟨k1,k2⟩:=e1 i cells hi hd;have hi':i < (sh++R).length:=(List.getElem?_eq_some_iff.1 hi).1;have hq:Q (β i):=by
    refine⟨(e1' i hi').1,fun k hk hkb=>?_,?_⟩
    ·have:=hlive k hk
     rw[hkb,k1] at this;cases this;omega
    ·cases ho:O1 (β i) with
     | none=>rfl
     | some k =>
      obtain⟨_,_,t,k',q,_⟩:=e3 _ _ (O1s ho).2;rw[k1] at q;cases q
   refine⟨(kd2q hq).trans k1,k2.mono hle2 (hheap hq) ?_⟩
   rintro j z l v hx ⟨A',c,p1,p2⟩
   refine⟨A',c,p1,?_⟩;rcases p2 with p2 | ⟨b,ar,tt,p3,p4,p5,p6⟩
   ·exact .inl p2
   ·have hb:Q b:=by
     refine⟨(Array.getElem?_eq_some_iff.1 p4).1,fun k hk hkb=>?_,if_pos ⟨i,j,_,p6,by omega⟩⟩
     have:=hlive k hk
     rw[hkb,p6] at this;cases this
    exact .inr ⟨b,ar,tt,p3,(hheap hb).trans p4,p5,(kd2q hb).trans p6⟩
 ·have hi':i < (sh++R).length:=by simp [hl] at hi ⊢;omega
  obtain⟨k1,j,k2⟩:=e1' i hi';have hsz:=A.size;refine⟨by omega,?_⟩;by_cases q:Q (β i)
  ·exact⟨j,(kd2q q).trans k2⟩
  ·rw[kd2n q]
   by_cases q1:∃ k,k < sh.length/\β k=β i
   ·obtain⟨k,q2,q3⟩:=q1
    obtain⟨_,j',q4⟩:=A.shok.2 k (by omega);rw[(A.same k q2).1,q3] at q4;exact⟨j',q4⟩
   ·cases ho:O1 (β i) with
    | none=>exact absurd ⟨k1,fun k hk hkb=>q1 ⟨k,hk,hkb⟩,ho⟩ q
    | some k =>
     obtain⟨_,_,t,k',q5,_⟩:=e3 _ _ (O1s ho).2;rw[k2] at q5;cases q5
 ·exact aQ.mono hle1 _ _ (fun _ _ _ h=>h) A.rep
 ·refine A.frame b hb (fun i hi=>hn i (by omega)) ?_
  by_cases q:RO b
  ·exact if_pos q
  ·rw[O1n q];exact ho
 ·obtain⟨k1,k2,t,k',k3,k4⟩:=e3 b k hk
  by_cases q:RO b
  ·have hq:Q b:=⟨k1,fun i hi=>k2 i (by omega),if_pos q⟩
   exact⟨t,k',(kd2q hq).trans k3,k4⟩
  ·have ho:O1 b=some k:=(O1n q).trans hk
   obtain⟨t',k'',q1,q2⟩:=A.o0 b k ho;exact⟨t',k'',(kd2n (hQown q1)).trans q1,q2⟩
 ·by_cases q:Q b
  ·rw[kd2q q] at hk
   exact .inr (e4 b t k hk q.1)
  ·rw[kd2n q] at hk
   rcases A.own0 b t k hk with q1 | q1
   ·exact .inl q1
   ·refine .inr ?_
    obtain⟨k2,q2⟩:=Option.isSome_iff_exists.1 q1;rw[(O1s q2).2];rfl
 ·simp [hl] at h1 h2;omega
 ·by_cases hlt:i < sh.length
  ·rw[getElem?_append_left hlt] at hi
   exact absurd rfl (hD _ (mem_of_getElem? hi))
  ·rw[hRget (by omega)];exact hi
theorem iJ.frame {P:Program} {f:FuncId} {args:List AV} {sh sh':LL} {r:AV} (h:iJ P f args sh r sh') (hl:sh'.length=sh.length) (hsh:sh.all (fun c=>c.all (iN sh.length))=true) (hD:∀ c∈sh,c≠aZ) (ha:args.all (jB sh.length)=true) (R:LL):iJ P f args (sh++R) r (sh'++R):=by
 intro kd β bs S0 O0 w vs hE hargs;obtain⟨kd1,O1,hE1,hA⟩:=xH (r:=r) hl hsh hD R hE;refine (h kd1 β bs S0 O1 w vs hE1 (rG ha hargs)).mono ?_
 rintro e w' ⟨v,kd',β',bs',he,A⟩
 obtain⟨kd2,A2⟩:=hA v kd' β' bs' w' A;exact⟨v,kd2,β,bs,he,A2⟩
theorem ON.frame {P:Program} {f:FuncId} {args:List AV} {sh sh':LL} {r:AV} (h:ON P f args sh r sh') (hl:sh'.length=sh.length) (hsh:sh.all (fun c=>c.all (iN sh.length))=true) (hD:∀ c∈sh,c≠aZ) (ha:args.all (jB sh.length)=true) (R:LL):ON P f args (sh++R) r (sh'++R):=by
 intro kd β bs S0 O0 w vs hE hargs;obtain⟨kd1,O1,hE1,hA⟩:=xH (r:=r) hl hsh hD R hE;obtain⟨v,w',kd',β',bs',hr,A⟩:=h kd1 β bs S0 O1 w vs hE1 (rG ha hargs);obtain⟨kd2,A2⟩:=hA v kd' β' bs' w' A;exact⟨v,w',kd2,β,bs,hr,A2⟩
def frmB (G:aO) (f:FuncId) (args:List AV):LL->Option (AV × LL)
 | c :: R=>(G f args [c]).bind fun p=>if p.2.length=1/\c.all (iN 1)=true/\fW c=false/\args.all (jB 1)=true then some (p.1,p.2++R) else none
 | []=>none
def nilB (G:aO) (f:FuncId) (args:List AV) (sh:LL):Option (AV × LL):=
 match args with
 | .sl .full z [] :: xs=>(G f (.sl .no z [] :: xs) []).bind fun p=>if p.2=[]/\xs.all (jB 0)=true then some (p.1,sh) else none
 | _=>none
end Go.Av
