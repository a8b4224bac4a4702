/- A part of the frame (Ev4 Ev5 Ev6 Ev7). No conditions. -/
import Derived.Test.YtgbjlnijjonidaaGreatDoorG1Ev1to3
import Derived.Laws.AppendOwn
import Derived.Laws.Append
import Derived.Laws.Strings
import Derived.Laws.StructEq
import Derived.Laws.CopyRow
open List
set_option linter.unusedSimpArgs false
set_option linter.unusedVariables false
set_option linter.unusedSectionVars false
set_option maxRecDepth 100000
set_option maxHeartbeats 16000000
namespace Go.Av
variable [Gtab]
open Go.RowKit
def S1 (S0:Nat->Nat->Prop) (w w':World) (kd:Nat->BK) (b o:Nat):Prop:=
 S0 b o\/(w.heap.size<=b/\b < w'.heap.size/\kd b=.stab)\/(b < w'.heap.size/\∃ t k,kd b=.own t k/\o < k)
def cx0 (β bs:Nat->Nat) (S0:Nat->Nat->Prop) (w:World) (n:Nat):Cx:=
 { S:=S0,w:=w,β:=β,bs:=bs,lam:=fun _=>0,shn:=n,live:=fun _=>False }
def RP (sh:LL) (kd:Nat->BK) (β bs:Nat->Nat) (S:Nat->Nat->Prop) (w:World):Prop:=
 (∀ i cells,sh[i]?=some cells->cells≠bJ->kd (β i)=.shr i/\nT (cx0 β bs S w sh.length) (fun j=>c8 kd w (.cell i j)) w (β i) (bs i) cells) /\
 (∀ i,i < sh.length->β i < w.heap.size/\∃ j,kd (β i)=.shr j)
def m8 (S0:Nat->Nat->Prop) (w:World):Prop:=∀ i k l,Gtab.tab i=some (k,l)->cW S0 w (l.map (AV.int k)) i 0
def nP (sh:LL) (kd:Nat->BK) (β bs:Nat->Nat) (S0:Nat->Nat->Prop) (O0:Nat->Option Nat) (w:World):Prop:=
 RP sh kd β bs S0 w /\
 (∀ b o,S0 b o->b < w.heap.size/\(∀ i,i < sh.length->β i≠b)/\∀ k,O0 b=some k->o < k) /\
 (∀ b k,O0 b=some k->b < w.heap.size/\(∀ i,i < sh.length->β i≠b)/\∃ t k',kd b=.own t k'/\k<=k') /\
 (∀ b t k,kd b=.own t k->b < w.heap.size->(O0 b).isSome=true)/\m8 S0 w
structure After (S0:Nat->Nat->Prop) (O0:Nat->Option Nat) (β bs:Nat->Nat) (w:World) (sh sh':LL) (r:AV) (v:Value) (kd':Nat->BK) (β' bs':Nat->Nat) (w':World):Prop where
 same:∀ i,i < sh.length->β' i=β i/\bs' i=bs i
 len:sh.length<=sh'.length
 shok:RP sh' kd' β' bs' (S1 S0 w w' kd') w'
 rep:aK (cx0 β' bs' (S1 S0 w w' kd') w' sh'.length) aN r v
 os:w'.os=w.os
 tape:w'.tape=w.tape
 output:w'.output=w.output
 size:w.heap.size<=w'.heap.size
 frame:∀ b,b < w.heap.size->(∀ i,i < sh.length->β i≠b)->O0 b=none->w'.heap[b]?=w.heap[b]?
 sframe:∀ b o,S0 b o->w'.cell? ⟨b,o,none⟩=w.cell? ⟨b,o,none⟩
 o0:∀ b k,O0 b=some k->∃ t k',kd' b=.own t k'/\k<=k'
 own0:∀ b t k,kd' b=.own t k->w.heap.size<=b\/(O0 b).isSome=true
 new:∀ i,sh.length<=i->i < sh'.length->w.heap.size<=β' i\/∃ j,j < sh.length/\β j=β' i/\sh[j]?≠some bJ/\sh'[j]?=some bJ
 deads:∀ i:Nat,sh[i]?=some bJ->sh'[i]?=some bJ
def gF (P:Program) (f:FuncId) (args:List AV) (sh:LL) (r:AV) (sh':LL):Prop:=
 ∀ (kd:Nat->BK) (β bs:Nat->Nat) (S0:Nat->Nat->Prop) (O0:Nat->Option Nat) (w:World) (vs:Array Value),nP sh kd β bs S0 O0 w ->
  aI (aK (cx0 β bs S0 w sh.length) aN) args vs.toList ->
  Calls P f vs w fun e w'=>∃ v kd' β' bs',e=.returned v/\After S0 O0 β bs w sh sh' r v kd' β' bs' w'
def vB (P:Program) (f:FuncId):Prop:=∃ fn,P.funcs[f]?=some fn/\fn.body.isSome=true/\(fn.name == "runtime.NumGoroutine")=false
def D4 (P:Program) (f:FuncId) (args:List AV) (sh:LL) (r:AV) (sh':LL):Prop:=
 ∀ (kd:Nat->BK) (β bs:Nat->Nat) (S0:Nat->Nat->Prop) (O0:Nat->Option Nat) (w:World) (vs:Array Value),nP sh kd β bs S0 O0 w ->
  aI (aK (cx0 β bs S0 w sh.length) aN) args vs.toList ->
  ∃ v w' kd' β' bs',(callFunc f vs).run P w=.ok (.value v) w'/\After S0 O0 β bs w sh sh' r v kd' β' bs' w'
def gM (P:Program) (G:aL):Prop:=∀ f args sh r sh',G f args sh=some (r,sh')->(vB P f/\gF P f args sh r sh')\/D4 P f args sh r sh'
def aR (E:Env) (σ:AS):Act->World->Prop:=fun a w=>∃ g,Sim E g σ a w
section
variable {P:Program} {E:Env} {g g':Gh} {σ σ1:AS} {a:Act} {w w':World} {o:Oper} {Q:Exit->Act->World->Prop}
theorem SS.nshr (h:Sim E g σ a w) {b n:Nat} (hs:SS E g w b n) {i:Nat} (hi:i < σ.sh.length):g.β i≠b:=by
 rintro rfl
 obtain⟨j,hj⟩:=h.shrk i hi;rcases hs with ⟨hb,hs⟩ | ⟨_,_,hk⟩ | ⟨_,_,_,hk,_⟩
 ·rcases Nat.lt_or_ge i E.n0 with hn | hn
  ·exact (h.s0 _ _ hs).2.1 i hn (h.shr0 i hn).1.symm
  ·rcases h.shr1 i hi hn with h9 | ⟨j0,h9,h10,_⟩
   ·omega
   ·exact (h.s0 _ _ hs).2.1 j0 h9 h10
 ·rw[hj] at hk;cases hk
 ·rw[hj] at hk;cases hk
theorem SS.own (h:Sim E g σ a w) {b n:Nat} (hs:SS E g w b n) {t:Ow} {k:Nat} (hk:g.kd b=.own t k):n < k:=by
 rcases hs with ⟨hb,hs⟩ | ⟨_,_,hk'⟩ | ⟨_,t',k',hk',hn⟩
 ·rcases h.own0 b t k hk with h1 | h1
  ·omega
  ·obtain⟨k0,hk0⟩:=Option.isSome_iff_exists.1 h1
   obtain⟨_,_,t1,k1,h2,h3⟩:=h.o0 b k0 hk0;rw[hk] at h2;cases h2
   have:=(h.s0 b n hs).2.2 k0 hk0
   omega
 ·rw[hk] at hk';cases hk'
 ·rw[hk] at hk';cases hk';exact hn
def mW (σ:AS):Ow->Prop
 | .slot s=>∀ z l,σ.fr s≠.sl .own z l
 | .cell i j=>∀ cells z l,σ.sh[i]?=some cells->cells≠bJ->cells[j]?≠some (.sl .own z l)
theorem Sim.turn (h:Sim E g σ a w) {b:Nat} {t t':Ow} {k k':Nat} {arr arr':Array Value} {ty:TypeId} (hb:w.heap[b]?=some (.cells arr ty (0,0))) (hk:g.kd b=.own t k)
  (hf:mW σ t) (hkk:k<=k') (hsame:∀ j,j < k->arr'[j]?=arr[j]?) :
  Sim E { g with kd:=upd g.kd b (.own t' k') } σ a (w.setRow b arr')/\Cx.le (cx E g σ w) (cx E { g with kd:=upd g.kd b (.own t' k') } σ (w.setRow b arr')):=by
 have hother:∀ b',b'≠b->(w.setRow b arr').heap[b']?=w.heap[b']?:=fun b' hne=>setRow_other w b b' _ hne
 have hsz:(w.setRow b arr').heap.size=w.heap.size:=by simp [World.setRow]
 have hnew:=setRow_heap w b arr arr' ty (0,0) hb;have hlt:=d7 hb;have hm:∀ b' n,SS E g w b' n->SS E { g with kd:=upd g.kd b (.own t' k') } (w.setRow b arr') b' n/\(w.setRow b arr').cell? ⟨b',n,none⟩=w.cell? ⟨b',n,none⟩:=by
  intro b' n hs;by_cases he:b'=b
  ·subst he
   have hn:=SS.own h hs hk;refine⟨.inr (.inr ⟨by rw[hsz];exact hlt,t',k',by simp [upd],by omega⟩),?_⟩;simp only[World.cell?,hnew,hb];simpa using hsame n hn
  ·refine⟨?_,by simp [World.cell?,hother b' he]⟩
   rcases hs with hs | ⟨h1,h2,h3⟩ | ⟨h1,t1,k1,h2,h3⟩
   ·exact .inl hs
   ·exact .inr (.inl ⟨h1,by rw[hsz];exact h2,by simp only[upd];rw[if_neg he];exact h3⟩)
   ·exact .inr (.inr ⟨by rw[hsz];exact h1,t1,k1,by simp only[upd];rw[if_neg he];exact h2,h3⟩)
 have hle:Cx.le (cx E g σ w) (cx E { g with kd:=upd g.kd b (.own t' k') } σ (w.setRow b arr')):=⟨hm,Nat.le_refl _,fun _ _=>rfl,fun _ _=>rfl,fun s hs=>⟨hs,rfl⟩⟩
 have how:∀ t1 v z n,t1≠t->c8 g.kd w t1 v z n->c8 (upd g.kd b (.own t' k')) (w.setRow b arr') t1 v z n:=by
  rintro t1 v z n hne ⟨A,c,e1,e2⟩
  refine⟨A,c,e1,?_⟩;rcases e2 with e2 | ⟨b1,ar,tt,e3,e4,e5,e6⟩
  ·exact .inl e2
  ·have hb1:b1≠b:=by
    rintro rfl
    rw[hk] at e6
    injection e6 with e6 _
    exact hne e6.symm
   exact .inr ⟨b1,ar,tt,e3,(hother b1 hb1).trans e4,e5,by simp only[upd];rw[if_neg hb1];exact e6⟩
 have hkd:∀ b',b'≠b->upd g.kd b (.own t' k') b'=g.kd b':=fun b' hne=>by simp [upd,hne]
 refine⟨{ h with slots:=?_,shr:=?_,shrlt:=?_,shrk:=?_,loc:=?_,o0:=?_,own0:=?_,hsize:=by rw[hsz];exact h.hsize,frame:=?_,sframe:=?_ },hle⟩
 ·intro s
  refine aK.mono hle _ _ (fun z l hx ho=>how _ _ _ _ ?_ ho) (h.slots s)
  rintro rfl
  exact hf z l hx
 ·intro i cells hi hd
  obtain⟨j1,j2⟩:=h.shr i cells hi hd;have hne:g.β i≠b:=by intro e;rw[e,hk] at j1;cases j1
  refine⟨(hkd _ hne).trans j1,j2.mono hle (hother _ hne) (fun j z l v hx ho=>how _ _ _ _ ?_ ho)⟩
  rintro rfl
  exact hf cells z l hi hd hx
 ·intro i hi;rw[hsz];exact h.shrlt i hi
 ·intro i hi
  obtain⟨j,hj⟩:=h.shrk i hi;have hne:g.β i≠b:=by intro e;rw[e,hk] at hj;cases hj
  exact⟨j,(hkd _ hne).trans hj⟩
 ·intro s cells hs
  obtain⟨j1,j2,j3⟩:=h.loc s cells hs;have hne:g.lam s≠b:=by intro e;rw[e,hk] at j1;cases j1
  exact⟨(hkd _ hne).trans j1,j2,j3.mono hle (hother _ hne) (fun _ _ _ _ _ h=>h)⟩
 ·intro b' k0 hk0
  obtain⟨j1,j2,t1,k1,j3,j4⟩:=h.o0 b' k0 hk0;refine⟨j1,j2,?_⟩;by_cases he:b'=b
  ·subst he
   rw[hk] at j3;cases j3;exact⟨t',k',by simp [upd],by omega⟩
  ·exact⟨t1,k1,(hkd _ he).trans j3,j4⟩
 ·intro b' t1 k1 hk1
  by_cases he:b'=b
  ·subst he;exact h.own0 b' t k hk
  ·have h9:g.kd b'=.own t1 k1:=(hkd _ he).symm.trans hk1
   exact h.own0 b' t1 k1 h9
 ·intro b' h1 h2 h3
  have hne:b'≠b:=by
   rintro rfl
   rcases h.own0 _ t k hk with h4 | h4
   ·omega
   ·rw[h3] at h4;cases h4
  rw[hother b' hne];exact h.frame b' h1 h2 h3
 ·intro b' n hs
  rw[<- h.sframe b' n hs];exact (hm b' n (.inl ⟨(h.s0 b' n hs).1,hs⟩)).2
theorem setRow_self {b:Nat} {arr:Array Value} {ty:TypeId} {fz:Nat × Nat} (hb:w.heap[b]?=some (.cells arr ty fz)):w.setRow b arr=w:=by
 have h1:(w.setRow b arr).heap=w.heap:=by
  apply Array.ext_getElem?;intro i;by_cases he:i=b
  ·subst he
   rw[setRow_heap w i arr arr ty fz hb,hb]
  ·exact setRow_other w b i _ he
 cases w;simp only[World.setRow] at h1 ⊢;rw[h1]
theorem bP {x:AV} {val:Value} (hs:Sim E g' σ1 a w') (hrun:(execOp a.eval o).run P w=.ok (.value val) w')
  (hx:∀ d,o.dst=some d->d < E.nt/\aK (cx E g' σ1 w') (c8 g'.kd w' (.slot d)) x val):o.wp P a w (aR E (put σ1 o.dst x)) Q:=by
 unfold Oper.wp;rw[hrun];show aR E (put σ1 o.dst x) (a.put o.dst val) w';cases hd:o.dst with
 | none=>exact⟨g',hs⟩
 | some d=>exact⟨g',hs.put_ (hx d hd).1 (hx d hd).2⟩
theorem lI {rs:List AR} (h:a9 [] rs=true):rs=[]:=by
 cases rs with
 | nil=>rfl
 | cons r rs=>simp [a9] at h
theorem iZ {x:Operand} {xs:List Operand} {rs:List AR} (h:a9 (x :: xs) rs=true):∃ r rs',rs=r :: rs'/\okR x r=true/\a9 xs rs'=true:=by
 cases rs with
 | nil=>simp [a9] at h
 | cons r rs=>exact⟨r,rs,rfl,by simpa [a9] using h⟩
theorem dV {x:Operand} {rs:List AR} (h:a9 [x] rs=true):∃ r,rs=[r]/\okR x r=true:=by
 obtain⟨r,rs',rfl,h1,h2⟩:=iZ h
 cases lI h2
 exact⟨r,rfl,h1⟩
theorem dR {x y:Operand} {rs:List AR} (h:a9 [x,y] rs=true):∃ r s,rs=[r,s]/\okR x r=true/\okR y s=true:=by
 obtain⟨r,rs',rfl,h1,h2⟩:=iZ h;obtain⟨s,rfl,h3⟩:=dV h2;exact⟨r,s,rfl,h1,h3⟩
theorem qZ {x y z:Operand} {rs:List AR} (h:a9 [x,y,z] rs=true):∃ r s t,rs=[r,s,t]/\okR x r=true/\okR y s=true/\okR z t=true:=by
 obtain⟨r,rs',rfl,h1,h2⟩:=iZ h;obtain⟨s,t,rfl,h3,h4⟩:=dR h2;exact⟨r,s,t,rfl,h1,h3,h4⟩
theorem aD.top {c:Cx} {ow:Value->Nat->Nat->Prop} {x:AV} {v:Value} (h:aD c.S c.w x v):aK c ow x v/\aH x=x/\a8 x=true/\v.cells=#[v]:=by
 cases x with
 | int k n=>simp only[aD] at h;subst h;exact⟨rfl,rfl,rfl,rfl⟩
 | bool b=>simp only[aD] at h;subst h;exact⟨rfl,rfl,rfl,rfl⟩
 | str s =>
  have h0:=h;simp only[aD] at h;obtain⟨b,rfl,_⟩:=h;exact⟨h0,rfl,rfl,rfl⟩
 | nilp=>simp only[aD] at h;subst h;exact⟨rfl,rfl,rfl,rfl⟩
 | sl m z l =>
  have h0:=h;simp only[aD] at h;obtain⟨A,cp,rfl,_,_,h6,_⟩:=h
  cases m with
  | own=>exact absurd rfl h6
  | no=>exact⟨h0,rfl,rfl,rfl⟩
  | full=>exact⟨h0,rfl,rfl,rfl⟩
 | _=>simp [aD] at h
theorem Sim.rd (h:Sim E g σ a w) {x:Operand} {r:AR} (ho:okR x r=true) {v:AV} (hv:ev σ.fr r=v):aK (cx E g σ w) aN (aH v) (a.eval x):=by
 rw[<- hv];exact h.ev_ ho
theorem Sim.rdT (h:Sim E g σ a w) {x:Operand} {r:AR} (ho:okR x r=true):∃ ow,aK (cx E g σ w) ow (ev σ.fr r) (a.eval x)/\(∀ s,r=.t s->ow=c8 g.kd w (.slot s)):=by
 unfold okR at ho
 split at ho
 ·exact⟨aN,⟨_,0,rfl,h.tabR ho⟩,fun s hs=>by cases hs⟩
 ·simp at ho
  subst ho;exact⟨_,h.slots _,fun s hs=>by cases hs;rfl⟩
 ·exact⟨aN,xS ho,fun s hs=>by cases hs⟩
 ·simp at ho
  subst ho;exact⟨aN,⟨#[],rfl,trivial⟩,fun s hs=>by cases hs⟩
 ·cases ho
theorem Sim.rdNat (h:Sim E g σ a w) {x:Operand} {r:AR} (ho:okR x r=true) {k:IntKind} {n:Int} (hv:ev σ.fr r=.int k n):a.eval x=.int k n:=by
 have:=h.rd ho hv
 exact this
theorem Sim.rdBool (h:Sim E g σ a w) {x:Operand} {r:AR} (ho:okR x r=true) {b:Bool} (hv:ev σ.fr r=.bool b):a.eval x=.bool b:=by
 have:=h.rd ho hv
 exact this
theorem Sim.rdStr (h:Sim E g σ a w) {x:Operand} {r:AR} (ho:okR x r=true) {s:List UInt8} (hv:ev σ.fr r=.str s):∃ b,a.eval x=.string b/\b.data.toList=s:=by
 have:=h.rd ho hv
 exact this
theorem Sim.rdSl (h:Sim E g σ a w) {x:Operand} {r:AR} (ho:okR x r=true) {m:Own} {z:Nat} {l:LL} (hv:ev σ.fr r=.sl m z l) :
  ∃ A c,a.eval x=.slice A l.length c/\l.length<=c/\(m=.full->c=l.length)/\(l=[]\/∃ b o,A=some ⟨b,o,none⟩/\dK (SS E g w) w z l b o):=by
 have:=h.rd ho hv
 cases m with
 | own =>
  simp only[aH,aK,aJ,aD] at this;obtain⟨A,c,h1,h2,_,_,h5⟩:=this;exact⟨A,c,h1,h2,by simp,h5⟩
 | no =>
  simp only[aH,aK,aJ,aD] at this;obtain⟨A,c,h1,h2,_,_,h5⟩:=this;exact⟨A,c,h1,h2,by simp,h5⟩
 | full =>
  simp only[aH,aK,aJ,aD] at this;obtain⟨A,c,h1,h2,h3,_,h5⟩:=this;exact⟨A,c,h1,h2,fun _=>h3 trivial,h5⟩
theorem uW {c:Cx} {ow:Value->Nat->Nat->Prop} {x:AV} {v:Value} (hf:a8 (dO x)=true) (r:aK c ow x v):aD c.S c.w (dO x) v/\v.cells=#[v]:=by
 have r':aK c aN (dO x) v:=r.str;generalize dO x=y at hf r'
 cases y<;>simp [a8] at hf
 ·have:v=.int _ _:=r'
  subst this;exact⟨r',rfl⟩
 ·have:v=.bool _:=r'
  subst this;exact⟨r',rfl⟩
 ·obtain⟨b,rfl,hb⟩:∃ b,v=.string b/\b.data.toList=_:=r'
  exact⟨⟨b,rfl,hb⟩,rfl⟩
 ·have:v=.pointer none:=r'
  subst this;exact⟨r',rfl⟩
 ·rename_i m z l
  cases m
  ·have h1:aD c.S c.w (.sl .no z l) v:=r'
   refine⟨h1,?_⟩;simp only[aD] at h1;obtain⟨A,c,rfl,_⟩:=h1;rfl
  ·have h1:aD c.S c.w (.sl .full z l) v:=r'
   refine⟨h1,?_⟩;simp only[aD] at h1;obtain⟨A,c,rfl,_⟩:=h1;rfl
  ·simp at hf
theorem DP {c:Cx} {ow:Value->Nat->Nat->Prop} {x:AV} {v:Value} (hf:a8 (rO x)=true) (r:aK c ow x v):aD c.S c.w (rO x) v/\v.cells=#[v]:=by
 by_cases h:∃ z,x=.sl .full z []
 ·obtain⟨z,rfl⟩:=h
  have h1:aD c.S c.w (.sl .full z []) v:=r;refine⟨h1,?_⟩;simp only[aD] at h1;obtain⟨A,c,rfl,_⟩:=h1;rfl
 ·have e:rO x=dO x:=by
   unfold rO;split
   ·rename_i z
    exact absurd ⟨z,rfl⟩ h
   ·rfl
  rw[e] at hf ⊢;exact uW hf r
theorem iD {c:Cx} {ow:Value->Nat->Nat->Prop} {n:Nat} {x:AV} {v:Value} {cs:List AV} (hc:bB n x=some cs) (r:aK c ow x v) :
  aI (aD c.S c.w) cs v.cells.toList/\cs.length=n:=by
 unfold bB at hc
 split at hc
 ·split at hc
  ·cases hc
   rename_i hl;obtain⟨vs,rfl,h2⟩:∃ vs,v=.agg vs/\aI (aD c.S c.w) _ vs.toList:=r;exact⟨h2,hl⟩
  ·cases hc
 ·split at hc
  ·cases hc
   rename_i hl;obtain⟨h1,h2⟩:=DP hl.2 r;rw[h2];exact⟨⟨h1,trivial⟩,by simp [hl.1]⟩
  ·cases hc
theorem lZ {c:Cx} {ow:Value->Nat->Nat->Prop} {x:AV} {v:Value} (hf:a8 (aH x)=true) (r:aX c ow x v):aD c.S c.w (aH x) v:=by
 cases x with
 | sl m z l =>
  cases m with
  | own=>exact r.1
  | no=>exact r
  | full=>exact r
 | int=>exact r
 | bool=>exact r
 | str=>exact r
 | nilp=>exact r
 | _=>simp [a8,aH] at hf
theorem x8 {c:Cx} {ow:Nat->Value->Nat->Nat->Prop} {agg:Bool} {off n:Nat} {cells:List AV} {v:AV} {arr:Array Value} (h:ldC agg off n cells=some v)
  (hr:∀ (j:Nat) (x:AV),cells[j]?=some x->∃ u,arr[j]?=some u/\aX c (ow j) x u) :
  aH v=v/\((agg=true/\∃ vs:List Value,vs.length=n/\(∀ j u,vs[j]?=some u->arr[off+j]?=some u)/\aK c aN v (.agg vs.toArray))\/(agg=false/\∃ x,arr[off]?=some x/\aK c aN v x)):=by
 unfold ldC at h
 split at h
 ·rename_i ha
  split at h
  ·rename_i hc
   cases h;obtain⟨h1,h2⟩:=hc;refine⟨rfl,.inl ⟨ha,?_⟩⟩;have hn:off+n<=cells.length\/n=0:=by
    rw[length_take,length_drop] at h1;omega
   have hsub:∀ j,j < n->∃ x u,cells[off+j]?=some x/\arr[off+j]?=some u/\aD c.S c.w (aH x) u:=by
    intro j hj;have hlt:off+j < cells.length:=by omega
    obtain⟨u,h3,h4⟩:=hr (off+j) _ (getElem?_eq_getElem hlt);refine⟨_,u,getElem?_eq_getElem hlt,h3,lZ ?_ h4⟩;rw[all_eq_true] at h2;refine h2 _ (mem_iff_getElem?.2 ⟨j,?_⟩);rw[getElem?_take_of_lt hj,getElem?_drop,getElem?_eq_getElem hlt]
   have hlen:n<=arr.size - off:=by
    by_cases h0:n=0
    ·omega
    ·obtain⟨_,u,_,h3,_⟩:=hsub (n - 1) (by omega)
     have:=(Array.getElem?_eq_some_iff.1 h3).1
     omega
   refine⟨(arr.toList.drop off).take n,by simp;omega,?_,_,rfl,?_⟩
   ·intro j u hu
    rw[getElem?_take] at hu
    split at hu
    ·rw[getElem?_drop] at hu;simpa using hu
    ·cases hu
   ·have key:∀ (l:List AV) (vs:List Value),l.length=vs.length->(∀ (j:Nat) (x:AV) (u:Value),l[j]?=some x->vs[j]?=some u->aD c.S c.w x u)->aI (aD c.S c.w) l vs:=by
     intro l
     induction l with
     | nil=>intro vs h1 _;cases vs with
      | nil=>trivial
      | cons=>simp at h1
     | cons x l ih=>intro vs h1 h2;cases vs with
      | nil=>simp at h1
      | cons u vs=>exact⟨h2 0 x u rfl rfl,ih vs (by simpa using h1) fun j y w h3 h4=>h2 (j+1) y w (by simpa using h3) (by simpa using h4)⟩
    refine key _ _ (by simp [h1];omega) ?_;intro j x u hx hu;have hj:j < n:=by
     have:=(List.getElem?_eq_some_iff.1 hx).1
     rw[length_map,h1] at this;exact this
    obtain⟨y,u',h3,h4,h5⟩:=hsub j hj;rw[getElem?_map,getElem?_take_of_lt hj,getElem?_drop,h3] at hx;simp only[Option.map_some,Option.some.injEq] at hx;subst hx
    have:arr[off+j]?=some u:=by
     rw[getElem?_take_of_lt hj,getElem?_drop] at hu;simpa using hu
    rw[h4] at this;cases this;exact h5
  ·cases h
 ·rename_i ha
  split at h
  ·rename_i x hx
   obtain⟨u,h3,h4⟩:=hr off x hx;have ha':agg=false:=by simpa using ha
   unfold ldV at h
   split at h
   ·cases h
   ·cases h
   ·cases h
    exact⟨rfl,.inr ⟨ha',u,h3,h4.1⟩⟩
   ·rename_i hne1 hne2 hne3
    simp only[Option.some.injEq] at h;subst h;refine⟨?_,.inr ⟨ha',u,h3,?_⟩⟩
    ·cases x with
     | sl m z l=>cases m<;>first | rfl | exact absurd rfl (hne3 _ _)
     | _=>rfl
    ·cases x with
     | sl m z l=>cases m<;>first | exact h4 | exact absurd rfl (hne3 _ _)
     | undef=>exact absurd rfl hne2
     | mapv=>exact absurd rfl (hne1 _)
     | any=>trivial
     | loc=>simp [aX,aJ,aD] at h4
     | ip=>simp [aX,aJ,aD] at h4
     | fn=>simp [aX,aJ,aD] at h4
     | tup=>simp [aX,aJ,aD] at h4
     | aggR=>simp [aX,aJ,aD] at h4
     | _=>exact h4
  ·cases h
theorem cQ {c:Cx} {x:AV} {v:Value} (h1:aD c.S c.w x v):v.oneCell'=true/\aX c aN x v:=by
 cases x with
 | int k n=>have h0:=h1;simp only[aD] at h1;subst h1;exact⟨rfl,h0⟩
 | bool b=>have h0:=h1;simp only[aD] at h1;subst h1;exact⟨rfl,h0⟩
 | str s=>have h0:=h1;simp only[aD] at h1;obtain⟨b,rfl,_⟩:=h1;exact⟨rfl,h0⟩
 | nilp=>have h0:=h1;simp only[aD] at h1;subst h1;exact⟨rfl,h0⟩
 | sl m z l =>
  have h0:=h1;simp only[aD] at h1;obtain⟨A,cp,rfl,_,_,h6,_⟩:=h1
  cases m with
  | own=>exact absurd rfl h6
  | no=>exact⟨rfl,h0⟩
  | full=>exact⟨rfl,h0⟩
 | _=>simp [aD] at h1
theorem iE {c:Cx} {ow:Value->Nat->Nat->Prop} {n:Nat} {x:AV} {v:Value} {cs:List AV} (hc:dC n x=some cs) (r:aK c ow x v) :
  cs.length=n/\v.cells.size=n/\(∀ u∈v.cells.toList,u.oneCell'=true)/\∀ (j:Nat) (y:AV),cs[j]?=some y->∃ u,v.cells[j]?=some u/\aX c aN y u:=by
 unfold dC at hc
 split at hc
 ·split at hc
  ·cases hc
   rename_i l hl;obtain⟨vs,rfl,h2⟩:∃ vs,v=.agg vs/\aI (aD c.S c.w) _ vs.toList:=r;have hlen:=h2.length;simp only[Array.length_toList] at hlen;refine⟨hl,by show vs.size=n;omega,fun u hu=>?_,fun j y hy=>?_⟩
   ·obtain⟨j,hj⟩:=mem_iff_getElem?.1 hu
    obtain⟨y,_,h4⟩:=h2.getv hj;exact (cQ h4).1
   ·obtain⟨u,h3,h4⟩:=h2.get hy
    exact⟨u,by simpa [Value.cells] using h3,(cQ h4).2⟩
  ·cases hc
 ·split at hc
  ·cases hc
   rename_i l hl;obtain⟨hl,hall⟩:=hl;obtain⟨vs,rfl,h2⟩:∃ vs,v=.agg vs/\aI (aX c aN) _ vs.toList:=r;have hlen:=h2.length;simp only[Array.length_toList] at hlen;have one:∀ (y:AV) (u:Value),frB y=true->aX c aN y u->u.oneCell'=true:=by
    intro y u hf hr
    cases y with
    | int k n=>have:u=.int k n:=hr;subst this;rfl
    | bool b=>have:u=.bool b:=hr;subst this;rfl
    | str s=>obtain⟨b,rfl,_⟩:∃ b,u=.string b/\b.data.toList=s:=hr;rfl
    | nilp=>have:u=.pointer none:=hr;subst this;rfl
    | sl m z l =>
     cases m with
     | own=>simp [frB,a8,B5] at hf
     | no=>exact (cQ (c:=c) (x:=.sl .no z l) hr).1
     | full=>exact (cQ (c:=c) (x:=.sl .full z l) hr).1
    | ptr=>obtain⟨_,rfl⟩:_/\u=_:=hr;rfl
    | ss=>obtain⟨_,cp,rfl,_⟩:_/\∃ cp,u=_/\_:=hr;rfl
    | mp=>obtain⟨_,rfl⟩:_/\u=_:=hr;rfl
    | _=>simp [frB,a8,B5] at hf
   refine⟨hl,by show vs.size=n;omega,fun u hu=>?_,fun j y hy=>?_⟩
   ·obtain⟨j,hj⟩:=mem_iff_getElem?.1 hu
    obtain⟨y,h3,h4⟩:=h2.getv hj;exact one y u (all_eq_true.1 hall y (mem_iff_getElem?.2 ⟨j,h3⟩)) h4
   ·obtain⟨u,h3,h4⟩:=h2.get hy
    exact⟨u,by simpa [Value.cells] using h3,h4⟩
  ·cases hc
 ·split at hc
  ·cases hc
   rename_i hl;obtain⟨rfl,hl⟩:=hl;rw[Bool.or_eq_true] at hl;rcases hl with hl | hl
   ·obtain⟨h1,h2⟩:=uW hl r
    rw[h2];refine⟨rfl,rfl,fun u hu=>?_,fun j y hy=>?_⟩
    ·simp at hu;subst hu;exact (cQ h1).1
    ·cases j with
     | zero=>simp at hy;subst hy;exact⟨v,rfl,(cQ h1).2⟩
     | succ j=>simp at hy
   ·have key:v.cells=#[v]/\v.oneCell'=true/\aX c aN (dO x) v:=by
     cases x<;>simp [B5] at hl
     ·obtain⟨h1,rfl⟩:_/\v=_:=r
      exact⟨rfl,rfl,h1,rfl⟩
     ·obtain⟨h1,cp,rfl,h3⟩:_/\∃ cp,v=_/\_:=r
      exact⟨rfl,rfl,h1,cp,rfl,h3⟩
     ·obtain⟨h1,rfl⟩:_/\v=_:=r
      exact⟨rfl,rfl,h1,rfl⟩
    rw[key.1];refine⟨rfl,rfl,fun u hu=>?_,fun j y hy=>?_⟩
    ·simp at hu;subst hu;exact key.2.1
    ·cases j with
     | zero=>simp at hy;subst hy;exact⟨v,rfl,key.2.2⟩
     | succ j=>simp at hy
  ·cases hc
theorem mJ {c:Cx} {agg:Bool} {off n:Nat} {cells:List AV} {v:AV} (h:eA agg off n cells=some v) {vs:List Value} (hr:aI (aD c.S c.w) ((cells.drop off).take n) vs) :
  vs.length=n/\((agg=true/\aK c aN v (.agg vs.toArray))\/(agg=false/\∃ x,vs=[x]/\aK c aN v x))/\aH v=v:=by
 unfold eA at h;simp only at h
 split at h
 ·rename_i hl
  have hn:=hr.length
  split at h
  ·rename_i ha
   cases h;exact⟨by omega,.inl ⟨ha,⟨_,rfl,by simpa using hr⟩⟩,rfl⟩
  ·rename_i ha
   split at h
   ·rename_i x he
    cases h;rw[he] at hr hn hl
    match vs,hr with
    | [u],hr =>
     have hr1:=aD.top (ow:=aN) hr.1;exact⟨by simpa using hl,.inr ⟨by simpa using ha,u,rfl,hr1.1⟩,hr1.2.1⟩
   ·cases h
 ·cases h
end
end Go.Av
namespace Go.Av
variable [Gtab]
open Go.RowKit
section
variable {P:Program} {E:Env} {g g':Gh} {σ σ1:AS} {a:Act} {w w':World} {o:Oper} {Q:Exit->Act->World->Prop}
theorem gS (x:AV):aH (aH x)=aH x:=by
 cases x with
 | sl m z l=>cases m<;>rfl
 | _=>rfl
theorem aG {x:AV} {val:Value} (hs:Sim E g σ a w) (hd:∀ d,o.dst=some d->d < E.nt)
  (hrun:(execOp a.eval o).run P w=.ok (.value val) w) (hv:aH x=x) (hx:aK (cx E g σ w) aN x val):o.wp P a w (aR E (put σ o.dst x)) Q:=
 bP hs hrun fun d h=>⟨hd d h,hx.noown hv⟩
theorem BF (hs:Sim E g σ a w) (hd:∀ d,o.dst=some d->d < E.nt) {x:Operand} {r:AR} (hop:o.op=.move x\/o.op=.assign x) (hr:okR x r=true) :
  o.wp P a w (aR E (put σ o.dst (aH (ev σ.fr r)))) Q:=by
 refine aG hs hd (val:=a.eval x) ?_ (gS _) (hs.ev_ hr);rcases hop with h | h<;>simp [execOp,h]
theorem xC (hs:Sim E g σ a w) (hd:∀ d,o.dst=some d->d < E.nt) {x:Operand} {s:Nat} (hop:o.op=.move x\/o.op=.assign x) (hr:okR x (.t s)=true) :
  o.wp P a w (aR E (put (cI σ (some s)) o.dst (ev σ.fr (.t s)))) Q:=by
 have hx:x=.tmp s:=by
  unfold okR at hr;split at hr<;>simp_all
 subst hx;have hrun:(execOp a.eval o).run P w=.ok (.value (a.eval (.tmp s))) w:=by rcases hop with h | h<;>simp [execOp,h]
 have hslot:=hs.slots s;by_cases hown:∃ z l,σ.fr s=.sl .own z l
 ·obtain⟨z,l,hfr⟩:=hown
  cases hdst:o.dst with
  | none =>
   have:=bP (o:=o) (P:=P) (Q:=Q) (x:=ev σ.fr (.t s)) (hs.dem_ (some s)) hrun (fun d h=>by rw[hdst] at h;cases h)
   rwa [hdst] at this
  | some d =>
   rw[hfr] at hslot;obtain⟨h1,A,c,hv,h2⟩:=hslot;rcases h2 with h2 | ⟨b,arr,ty,h3,h4,h5,h6⟩
   ·have:=bP (o:=o) (P:=P) (Q:=Q) (x:=ev σ.fr (.t s)) (hs.dem_ (some s)) hrun (fun d' h=>⟨hd d' h,by
     show aK (cx E g (cI σ (some s)) w) _ (σ.fr s) (a.tmps.getD s undef);rw[hfr]
     exact⟨h1,A,c,hv,.inl h2⟩⟩)
    rwa [hdst] at this
   ·have hsd:=hs.dem_ (some s)
    have hfree:mW (cI σ (some s)) (.slot s):=by
     intro z' l' e;simp [cI,upd,hfr,aH] at e
    obtain⟨hs',hle⟩:=hsd.turn (t':=.slot d) (k':=l.length*z) (arr':=arr) h4 h6 hfree (Nat.le_refl _) (fun _ _=>rfl);rw[setRow_self h4] at hs' hle
    have:=bP (o:=o) (P:=P) (Q:=Q) (x:=ev σ.fr (.t s)) hs' hrun (fun d' h=>⟨hd d' h,by
     rw[hdst] at h;cases h;show aK (cx E _ (cI σ (some s)) w) _ (σ.fr s) (a.tmps.getD s undef);rw[hfr]
     exact⟨aD.le hle h1,A,c,hv,.inr ⟨b,arr,ty,h3,h4,h5,by simp [upd]⟩⟩⟩)
    rwa [hdst] at this
 ·have hdm:aH (σ.fr s)=σ.fr s:=by
   cases hx:σ.fr s with
   | sl m z l=>cases m<;>first | rfl | exact absurd ⟨z,l,hx⟩ hown
   | _=>rfl
  have hds:cI σ (some s)=σ:=by
   show { σ with fr:=upd σ.fr s (aH (σ.fr s)) }=σ
   have:upd σ.fr s (aH (σ.fr s))=σ.fr:=by
    funext t;unfold upd;split
    ·rename_i h;subst h;exact hdm
    ·rfl
   rw[this]
  rw[hds];exact aG hs hd hrun hdm (aK.noown hdm hslot)
theorem BD (hs:Sim E g σ a w) (hd:∀ d,o.dst=some d->d < E.nt) {c x y:Operand} {rc rx ry:AR} (hop:o.op=.pick c x y)
  (hc:okR c rc=true) (hx:okR x rx=true) (hy:okR y ry=true) {b:Bool} (hb:ev σ.fr rc=.bool b) :
  o.wp P a w (aR E (put σ o.dst (aH (if b then ev σ.fr rx else ev σ.fr ry)))) Q:=by
 have h1:=hs.rdBool hc hb;refine aG hs hd (val:=if b then a.eval x else a.eval y) ?_ (gS _) ?_
 ·simp [execOp,hop,h1,asBool]
 ·cases b
  ·exact hs.ev_ hy
  ·exact hs.ev_ hx
theorem BE (hs:Sim E g σ a w) (hd:∀ d,o.dst=some d->d < E.nt) {x:Operand} {r:AR} (hop:o.op=.nilCheck x) (hr:okR x r=true)
  (hp:(∃ i j,ev σ.fr r=.ptr i j)\/(∃ i j,ev σ.fr r=.loc i j)\/(∃ l,ev σ.fr r=.ip l)) :
  o.wp P a w (aR E (put σ o.dst (ev σ.fr r))) Q:=by
 have hdv:aH (ev σ.fr r)=ev σ.fr r:=by
  rcases hp with ⟨i,j,h⟩ | ⟨i,j,h⟩ | ⟨l,h⟩<;>rw[h]<;>rfl
 have hrep:=hs.ev_ (ow:=aN) hr;rw[hdv] at hrep;have hval:∃ ad,a.eval x=.pointer (some ad):=by
  rcases hp with ⟨i,j,h⟩ | ⟨i,j,h⟩ | ⟨l,h⟩<;>rw[h] at hrep
  ·exact⟨_,hrep.2⟩
  ·exact⟨_,hrep.2⟩
  ·obtain⟨b,n,h1,_⟩:=hrep
   exact⟨_,h1⟩
 obtain⟨ad,had⟩:=hval;refine aG hs hd (val:=a.eval x) ?_ hdv hrep;simp [execOp,hop,had]
theorem DT {x y:ByteArray}:(x.toList == y.toList)=(x.data.toList == y.data.toList):=by
 simp [ByteArray.toList_eq]
theorem wJ {t:TypeId} {op:BinOp} {x y v:AV} {a b:Value} {c:Cx} {ow ow':Value->Nat->Nat->Prop} (h:dS op x y=some v) (hx:aK c ow x a) (hy:aK c ow' y b) (w:World) :
  ∃ val,(binOp op t a b).run P w=.ok val w/\aK c aN v val/\aH v=v/\(∀ X Y,(eqGuard op t X Y a b).run P w=.ok () w):=by
 have hgi:∀ (X Y:Operand) k i k' j,(eqGuard op t X Y (.int k i) (.int k' j)).run P w=.ok () w:=by intros;cases op<;>rfl
 have hgs:∀ (X Y:Operand) i j,(eqGuard op t X Y (.string i) (.string j)).run P w=.ok () w:=by intros;cases op<;>rfl
 unfold dS at h
 split at h
 ·rename_i k n k' n'
  have ha:a=.int _ _:=hx;have hb:b=.int _ _:=hy;subst ha;subst hb
  split at h
  ·rename_i hk
   subst hk;have hgg:=fun X Y=>hgi X Y k n k n'
   cases op<;>simp only[Option.some.injEq,reduceCtorEq] at h
   case quo =>
    split at h
    ·cases h
    ·cases h
     rename_i hb;exact⟨_,by simp [binOp,Op.intDiv,hb],rfl,rfl,hgg⟩
   case rem =>
    split at h
    ·cases h
    ·cases h
     rename_i hb;exact⟨_,by simp [binOp,Op.intDiv,hb],rfl,rfl,hgg⟩
   case and=>subst h;exact⟨_,by simp [binOp,Op.intBits],rfl,rfl,hgg⟩
   case or=>subst h;exact⟨_,by simp [binOp,Op.intBits],rfl,rfl,hgg⟩
   all_goals
    subst h;exact⟨_,by simp [binOp,Op.intArith,Op.intCmp],rfl,rfl,hgg⟩
  ·cases h
 ·obtain⟨sa,ha,ha'⟩:∃ s,a=.string s/\s.data.toList=_:=hx
  obtain⟨sb,hb,hb'⟩:∃ s,b=.string s/\s.data.toList=_:=hy;subst ha;subst hb;have hgg:=fun X Y=>hgs X Y sa sb
  cases op<;>simp only[Option.some.injEq,reduceCtorEq] at h
  case add =>
   split at h
   ·rename_i hl
    cases h;have h1:sa.size=sa.data.toList.length:=by simp
    have h2:sb.size=sb.data.toList.length:=by simp
    rw[ha'] at h1;rw[hb'] at h2;have hsz:(sa.size:Int)+(sb.size:Int)<=9223372036854775807:=by omega
    refine⟨.string (sa++sb),by simp [binOp,Op.stringOp,hsz],⟨_,rfl,?_⟩,rfl,hgg⟩;rw[<- ha',<- hb'];simp
   ·cases h
  all_goals
   subst h;refine⟨_,by simp only[binOp,Op.stringOp];rfl,?_,rfl,hgg⟩;simp only[ByteArray.toList_eq,ha',hb'];rfl
 ·cases h
theorem FI (hs:Sim E g σ a w) (hd:∀ d,o.dst=some d->d < E.nt) {op:BinOp} {t t':TypeId} {x y:Operand} {rx ry:AR} (hop:o.op=.binOp op t x y t')
  (hx:okR x rx=true) (hy:okR y ry=true) {v:AV} (hv:dS op (ev σ.fr rx) (ev σ.fr ry)=some v) :
  o.wp P a w (aR E (put σ o.dst v)) Q:=by
 obtain⟨_,h1,_⟩:=hs.rdT hx;obtain⟨_,h2,_⟩:=hs.rdT hy;obtain⟨val,h3,h4,h5,h6⟩:=wJ (P:=P) (t:=t) hv h1 h2 w;refine aG hs hd (val:=val) ?_ h5 h4;simp [execOp,hop,h6,h3]
theorem FJ (hs:Sim E g σ a w) (hd:∀ d,o.dst=some d->d < E.nt) {op:BinOp} {t t':TypeId} {x y:Operand} {rx ry:AR} (hop:o.op=.binOp op t x y t') {ne:Bool}
  (hne:(if ne then op == .neq else op == .eql)=true) (ht:P.underlying t=some .bool)
  (hx:okR x rx=true) (hy:okR y ry=true) {b c:Bool} (hb:ev σ.fr rx=.bool b) (hc:ev σ.fr ry=.bool c) :
  o.wp P a w (aR E (put σ o.dst (.bool (if ne then b != c else b == c)))) Q:=by
 have h1:=hs.rdBool hx hb;have h2:=hs.rdBool hy hc;have hu:∀ w,(underlying t).run P w=.ok .bool w:=run_underlying ht;have he:∀ w,(Op.equal t (.bool b) (.bool c)).run P w=.ok (b == c) w:=by
  intro w;have h:∀ d:Nat,(Op.equalIn (d+1) t (.bool b) (.bool c)).run P w=.ok (b == c) w:=fun d=>by
   simp only[Op.equalIn];simp [hu]
  exact h 9999
 refine aG hs hd (val:=.bool (if ne then b != c else b == c)) ?_ rfl rfl;cases ne
 ·have:op=.eql:=by simpa using hne
  subst this;have hg:(eqGuard .eql t x y (.bool b) (.bool c)).run P w=.ok () w:=rfl;have hb:(binOp .eql t (.bool b) (.bool c)).run P w=.ok (.bool (b == c)) w:=by
   simp only[binOp];simp [he]
  simp [execOp,hop,h1,h2,hg,hb]
 ·have:op=.neq:=by simpa using hne
  subst this;have hg:(eqGuard .neq t x y (.bool b) (.bool c)).run P w=.ok () w:=rfl;have hb:(binOp .neq t (.bool b) (.bool c)).run P w=.ok (.bool (b != c)) w:=by
   simp only[binOp];simp [he,bne]
  simp [execOp,hop,h1,h2,hg,hb]
theorem lC {e:TypeId} {d:TypeDesc} (hu:P.underlying e=some d) (hd:d=.bool\/d=.string\/∃ k,d=.int k) {xs:Array Value} {off:Nat} {v:Value} (hx:xs[off]?=some v) (w:World):(part e xs off).run P w=.ok v w:=by
 rcases hd with rfl | rfl | ⟨k,rfl⟩<;>simp [part,isAgg,run_underlying hu,hx]
theorem gR {xs:Array Value} {n:Nat} {v:Value} {r:List Value} (h:xs.toList.drop n=v :: r):xs[n]?=some v/\xs.toList.drop (n+1)=r:=by
 have h1:(xs.toList.drop n)[0]?=some v:=by rw[h];rfl
 rw[getElem?_drop] at h1;refine⟨by simpa using h1,?_⟩;rw[<- drop_drop,h];rfl
theorem jA {S:Nat->Nat->Prop} {w0:World} (d:Nat) (xs ys:Array Value) (w:World):∀ (fs:List Field) (n:Nat) (ks:List Nat) (l m:List AV) (r:Bool),fS P fs n ks=true->aI (aD S w0) l (xs.toList.drop n)->aI (aD S w0) m (ys.toList.drop n)->eqL ks l m=some r ->
  (Op.eqFields (d+1) xs ys fs).run P w=.ok r w
 | [],n,[],l,m,r,_,hl,hm,h=>by
  cases l<;>cases m<;>simp [eqL] at h
  subst h;simp [Op.eqFields]
 | [],_,_ :: _,_,_,_,h,_,_,_=>by simp [fS] at h
 | _ :: _,_,[],_,_,_,h,_,_,_=>by simp [fS] at h
 | f :: fs,n,k :: ks,l,m,r,hf,hl,hm,h=>by
  simp only[fS,Bool.and_eq_true,bne_iff_ne,ne_eq,beq_iff_eq] at hf;obtain⟨⟨⟨hn,hoff⟩,hty⟩,hrest⟩:=hf
  cases l with
  | nil=>cases m<;>simp [eqL] at h
  | cons x l =>
   cases m with
   | nil=>cases x<;>simp [eqL] at h
   | cons y m =>
    cases hxd:xs.toList.drop n with
    | nil=>rw[hxd] at hl;exact hl.elim
    | cons a xr =>
     cases hyd:ys.toList.drop n with
     | nil=>rw[hyd] at hm;exact hm.elim
     | cons b yr =>
      rw[hxd] at hl;rw[hyd] at hm;obtain⟨xa,xd⟩:=gR hxd;obtain⟨yb,yd⟩:=gR hyd;have hl2:=hl.2;have hm2:=hm.2;rw[<- xd] at hl2;rw[<- yd] at hm2;have key:∀ (desc:TypeDesc) (q:Bool),P.underlying f.type=some desc->(desc=.bool\/desc=.string\/∃ k,desc=.int k)->((Op.equalIn (d+1) f.type a b).run P w=.ok q w) ->
        ∀ r',eqL ks l m=some r'->r=(q && r')->(Op.eqFields (d+1) xs ys (f :: fs)).run P w=.ok r w:=by
       intro desc q hu hd he r' hr' hrr;have ih:=jA d xs ys w fs (n+1) ks l m r' hrest hl2 hm2 hr';have p1:=lC hu hd (off:=f.offset) (by rw[hoff];exact xa) w;have p2:=lC hu hd (off:=f.offset) (by rw[hoff];exact yb) w;simp only[Op.eqFields,hn,ne_eq,not_false_eq_true,if_true,Sem.run_bind,p1,p2,he,Result.andThen_ok];cases q
       ·simp [hrr]
       ·simpa [hrr] using ih
      split at hty
      ·rename_i kk hu
       cases x<;>cases y<;>simp only[eqL,reduceCtorEq] at h
       split at h
       ·rename_i hk
        subst hk;obtain⟨r',hr',rfl⟩:=Option.map_eq_some_iff.1 h;have ha:=hl.1;have hb:=hm.1;simp only[aD] at ha hb;subst ha;subst hb;exact key _ _ hu (.inr (.inr ⟨_,rfl⟩)) (run_equalIn_int w d f.type _ kk _ _ hu) r' hr' rfl
       ·cases h
      ·rename_i hu
       cases x<;>cases y<;>simp only[eqL,reduceCtorEq] at h
       obtain⟨r',hr',rfl⟩:=Option.map_eq_some_iff.1 h;have ha:=hl.1;have hb:=hm.1;simp only[aD] at ha hb;subst ha;subst hb;exact key _ _ hu (.inl rfl) (run_equalIn_bool' w d f.type _ _ hu) r' hr' rfl
      ·rename_i hu
       cases x<;>cases y<;>simp only[eqL,reduceCtorEq] at h
       obtain⟨r',hr',rfl⟩:=Option.map_eq_some_iff.1 h;have ha:=hl.1;have hb:=hm.1;simp only[aD] at ha hb;obtain⟨sa,ha,ha'⟩:=ha;obtain⟨sb,hb,hb'⟩:=hb;subst ha;subst hb;refine key _ _ hu (.inr (.inl rfl)) (run_equalIn_string w d f.type _ _ hu) r' hr' ?_;rw[DT,ha',hb']
      ·cases hty
theorem EU (hs:Sim E g σ a w) (hd:∀ d,o.dst=some d->d < E.nt) {op:BinOp} {t t':TypeId} {x y:Operand} {rx ry:AR} (hop:o.op=.binOp op t x y t') {ne:Bool} {fs:Array Field} {ks:List Nat}
  (hne:(if ne then op == .neq else op == .eql)=true) (ht:P.underlying t=some (.struct fs)) (h1:P.stoodInHeld t=false) (h2:P.eqGuardType P.depth t=false) (hf:fS P fs.toList 0 ks=true)
  (hx:okR x rx=true) (hy:okR y ry=true) {l m:List AV} (hl:ev σ.fr rx=.agg l) (hm:ev σ.fr ry=.agg m) {r:Bool} (hr:eqL ks l m=some r) :
  o.wp P a w (aR E (put σ o.dst (.bool (if ne then !r else r)))) Q:=by
 obtain⟨_,r1,_⟩:=hs.rdT hx;obtain⟨_,r2,_⟩:=hs.rdT hy;rw[hl] at r1;rw[hm] at r2;obtain⟨xs,e1,q1⟩:=r1;obtain⟨ys,e2,q2⟩:=r2;have hfs:P.fieldsOf t=fs:=by simp [Program.fieldsOf,ht]
 have he:(Op.equalIn 10000 t (.agg xs) (.agg ys)).run P w=.ok r w:=by
  rw[run_equalIn_struct w 9999 t xs ys (by rw[hfs];exact ht) h1,hfs];exact jA 9998 xs ys w fs.toList 0 ks l m r hf (by simpa using q1) (by simpa using q2) hr
 refine aG hs hd (val:=.bool (if ne then !r else r)) ?_ rfl rfl;cases ne
 ·have:op=.eql:=by simpa using hne
  subst this;have hg:=run_eqGuard_agg (P:=P) w .eql t x y xs ys h2;have hb:=run_eql_struct (P:=P) w t xs ys;rw[he] at hb;simp [execOp,hop,e1,e2,hg,hb]
 ·have:op=.neq:=by simpa using hne
  subst this;have hg:=run_eqGuard_agg (P:=P) w .neq t x y xs ys h2;have hb:=run_neq_struct (P:=P) w t xs ys;rw[he] at hb;simp [execOp,hop,e1,e2,hg,hb]
theorem ET (hs:Sim E g σ a w) (hd:∀ d,o.dst=some d->d < E.nt) {op:BinOp} {t t':TypeId} {x y:Operand} {rx ry:AR} (hop:o.op=.binOp op t x y t') {l:Bool}
  (hl:(if l then op == .shl else op == .shr)=true) (hx:okR x rx=true) (hy:okR y ry=true) {v:AV} (hv:shA l (ev σ.fr rx) (ev σ.fr ry)=some v) :
  o.wp P a w (aR E (put σ o.dst v)) Q:=by
 generalize hvx:ev σ.fr rx=vx at hv;generalize hvy:ev σ.fr ry=vy at hv;unfold shA at hv
 split at hv
 ·rename_i k n k' m
  have h1:=hs.rdNat hx hvx;have h2:=hs.rdNat hy hvy
  split at hv
  ·rename_i h0
   have h0':¬ m < 0:=by omega
   cases l
   ·simp only[Bool.false_eq_true,if_false,Option.some.injEq] at hv
    subst hv
    have:op=.shr:=by simpa using hl
    subst this;refine aG hs hd (val:=.int k (n.fdiv (2 ^ (min m.toNat k.bits)))) ?_ rfl rfl;have hg:(eqGuard .shr t x y (Value.int k n) (Value.int k' m)).run P w=.ok () w:=rfl;simp [execOp,hop,h1,h2,hg,binOp,Op.shift,h0']
   ·simp only[if_true,Option.some.injEq] at hv
    subst hv
    have:op=.shl:=by simpa using hl
    subst this;refine aG hs hd (val:=.int k (k.wrap (n*2 ^ (min m.toNat k.bits)))) ?_ rfl rfl;have hg:(eqGuard .shl t x y (Value.int k n) (Value.int k' m)).run P w=.ok () w:=rfl;simp [execOp,hop,h1,h2,hg,binOp,Op.shift,h0']
  ·cases hv
 ·cases hv
theorem FE (hs:Sim E g σ a w) (hd:∀ d,o.dst=some d->d < E.nt) {src dst:TypeId} {x:Operand} {rx:AR} (hop:o.op=.convert src dst x) {k k':IntKind}
  (h1:(P.underlying src).isSome=true) (h2:mS P dst k=true) (hx:okR x rx=true) {n:Int} (hv:ev σ.fr rx=.int k' n) :
  o.wp P a w (aR E (put σ o.dst (.int k (k.wrap n)))) Q:=by
 have e1:=hs.rdNat hx hv;obtain⟨u,hu⟩:=Option.isSome_iff_exists.1 h1;have hd2:P.underlying dst=some (.int k):=by
  unfold mS at h2
  split at h2
  ·rename_i hq;rw[hq];simp at h2;rw[h2]
  ·cases h2
 refine aG hs hd (val:=.int k (k.wrap n)) ?_ rfl rfl;simp [execOp,hop,e1,convert,run_underlying hu,run_underlying hd2,Conv.intToInt]
theorem EX (hs:Sim E g σ a w) (hd:∀ d,o.dst=some d->d < E.nt) {t:TypeId} {x:Operand} {rx:AR} (hop:o.op=.unOp .neg t x)
  (hx:okR x rx=true) {k:IntKind} {n:Int} (hv:ev σ.fr rx=.int k n) :
  o.wp P a w (aR E (put σ o.dst (.int k (k.wrap (0 - n))))) Q:=by
 have h1:=hs.rdNat hx hv;refine aG hs hd (val:=.int k (k.wrap (0 - n))) ?_ rfl rfl;simp [execOp,hop,h1,Op.unary,Op.intArith]
theorem EW (hs:Sim E g σ a w) (hd:∀ d,o.dst=some d->d < E.nt) {t:TypeId} {x:Operand} {rx:AR} (hop:o.op=.unOp .not t x)
  (hx:okR x rx=true) {b:Bool} (hv:ev σ.fr rx=.bool b) :
  o.wp P a w (aR E (put σ o.dst (.bool !b))) Q:=by
 have h1:=hs.rdBool hx hv;refine aG hs hd (val:=.bool !b) ?_ rfl rfl;simp [execOp,hop,h1,Op.unary]
theorem BI (hs:Sim E g σ a w) (hd:∀ d,o.dst=some d->d < E.nt) {x:Operand} {r:AR} {t e:TypeId} {ts:Array TypeId} (hop:o.op=.call { callee:=.builtin .len,args:=#[x],argTypes:=ts })
  (hx:okR x r=true) (hts:ts[0]?=some t) (ht:P.underlying t=some (.slice e)) {m:Own} {z:Nat} {l:LL} (hv:ev σ.fr r=.sl m z l) :
  o.wp P a w (aR E (put σ o.dst (.int .i64 (l.length:Int)))) Q:=by
 obtain⟨A,c,h1,_⟩:=hs.rdSl hx hv;refine aG hs hd (val:=.int .i64 (l.length:Int)) ?_ rfl rfl;simp [execOp,hop,resolve,invoke,builtin,h1,Builtin.len_,hts,run_underlying ht,goInt]
theorem BH (hs:Sim E g σ a w) (hd:∀ d,o.dst=some d->d < E.nt) {x:Operand} {r:AR} {t:TypeId} {ts:Array TypeId} (hop:o.op=.call { callee:=.builtin .len,args:=#[x],argTypes:=ts })
  (hx:okR x r=true) (hts:ts[0]?=some t) (ht:P.underlying t=some .string) {s:List UInt8} (hv:ev σ.fr r=.str s) :
  o.wp P a w (aR E (put σ o.dst (.int .i64 (s.length:Int)))) Q:=by
 obtain⟨b,h1,h2⟩:=hs.rdStr hx hv;have hsz:b.size=s.length:=by rw[<- h2];simp
 refine aG hs hd (val:=.int .i64 (s.length:Int)) ?_ rfl rfl;simp [execOp,hop,resolve,invoke,builtin,h1,Builtin.len_,hts,run_underlying ht,goInt,hsz]
theorem BG (hs:Sim E g σ a w) (hd:∀ d,o.dst=some d->d < E.nt) {isMax:Bool} {x y:Operand} {rx ry:AR} {ts:Array TypeId} (hop:o.op=.call { callee:=.builtin (if isMax then .max else .min),args:=#[x,y],argTypes:=ts })
  (hx:okR x rx=true) (hy:okR y ry=true) {k:IntKind} {n n':Int} (h1:ev σ.fr rx=.int k n) (h2:ev σ.fr ry=.int k n') :
  o.wp P a w (aR E (put σ o.dst (.int k (if isMax then (if n < n' then n' else n) else (if n' < n then n' else n))))) Q:=by
 have e1:=hs.rdNat hx h1;have e2:=hs.rdNat hy h2;refine aG hs hd (val:=.int k (if isMax then (if n < n' then n' else n) else (if n' < n then n' else n))) ?_ rfl rfl;cases isMax
 ·simp [execOp,hop,resolve,invoke,builtin,e1,e2,Builtin.min_,Builtin.min2]
 ·simp [execOp,hop,resolve,invoke,builtin,e1,e2,Builtin.max_,Builtin.max2]
theorem cG (b n k:Nat):(⟨b,n,none⟩:Addr).add k=⟨b,n+k,none⟩:=by
 unfold Addr.add;split<;>simp_all
theorem vQ (hs:Sim E g σ a w) (hd:∀ d,o.dst=some d->d < E.nt) {t:TypeId} {x:Operand} {r:AR} {fi:Nat} (hop:o.op=.fieldAddr t x fi)
  (hx:okR x r=true) {fs:Array Field} {f:Field} {n:Nat} (ht:P.underlying t=some (.struct fs)) (hf:fs[fi]?=some f) (hn:aO P f.type=some n) (h0:n≠0) {v v':AV}
  (hv:ev σ.fr r=v) (hv':(∃ s k,v=.loc s k/\v'=.loc s (k+f.offset))\/(∃ s k,v=.ptr s k/\v'=.ptr s (k+f.offset))\/(∃ l,v=.ip l/\v'=.ip (l.drop f.offset))) :
  o.wp P a w (aR E (put σ o.dst v')) Q:=by
 obtain⟨i,hi,hin⟩:∃ i,P.info? f.type=some i/\i.size=n:=by
  unfold aO at hn;cases h:P.info? f.type with
  | none=>rw[h] at hn;cases hn
  | some i=>rw[h] at hn;exact⟨i,rfl,by simpa using hn⟩
 have hrd:=hs.rd hx hv;have hrun:∀ b k,a.eval x=.pointer (some ⟨b,k,none⟩)->(execOp a.eval o).run P w=.ok (.value (.pointer (some ⟨b,k+f.offset,none⟩))) w:=by
  intro b k he;simp [execOp,hop,he,Instr.fieldAt,run_underlying ht,hf,Instr.sureAddr,fieldPlace,sizeOf,typeInfo,hi,hin,h0,cG]
 rcases hv' with ⟨s,k,rfl,rfl⟩ | ⟨s,k,rfl,rfl⟩ | ⟨l,rfl,rfl⟩
 ·exact aG hs hd (hrun _ _ hrd.2) rfl ⟨hrd.1,rfl⟩
 ·exact aG hs hd (hrun _ _ hrd.2) rfl ⟨hrd.1,rfl⟩
 ·obtain⟨b,k,h1,h2⟩:=hrd
  exact aG hs hd (hrun _ _ h1) rfl ⟨b,_,rfl,h2.drop _⟩
theorem cO {P:Program} {t:TypeId} {n:Nat} (hn:aO P t=some n):∃ i,P.info? t=some i/\i.size=n:=by
 unfold aO at hn;cases h:P.info? t with
 | none=>rw[h] at hn;cases hn
 | some i=>rw[h] at hn;exact⟨i,rfl,by simpa using hn⟩
theorem J2 (hs:Sim E g σ a w) (hd:∀ d,o.dst=some d->d < E.nt) {t e:TypeId} {x y:Operand} {rx ry:AR} (hop:o.op=.indexAddr t x y)
  (hx:okR x rx=true) (hy:okR y ry=true) (ht:P.underlying t=some (.slice e)) {z:Nat} (hz:aO P e=some z)
  {m:Own} {l:LL} {k:IntKind} {i:Int} {c:List AV} (h1:ev σ.fr rx=.sl m z l) (h2:ev σ.fr ry=.int k i) (h0:0<=i) (hc:l[i.toNat]?=some c) :
  o.wp P a w (aR E (put σ o.dst (.ip c))) Q:=by
 obtain⟨inf,hi,hin⟩:=cO hz;obtain⟨A,cp,e1,_,_,e5⟩:=hs.rdSl hx h1;have e2:=hs.rdNat hy h2;have hlt:i.toNat < l.length:=(List.getElem?_eq_some_iff.1 hc).1;rcases e5 with e5 | ⟨b,n,rfl,e6⟩
 ·subst e5;simp at hlt
 ·obtain⟨_,e8⟩:=e6.get hc
  refine aG hs hd (val:=.pointer (some ⟨b,n+i.toNat*z,none⟩)) ?_ rfl ⟨b,_,rfl,e8⟩;have hlt':i < (l.length:Int):=by omega
  simp [execOp,hop,e1,e2,Instr.indexAt,asIntOf,run_underlying ht,h0,hlt',sizeOf,typeInfo,hi,hin,cG]
theorem sG (hs:Sim E g σ a w) (hd:∀ d,o.dst=some d->d < E.nt) {t e:TypeId} {len:Nat} {x y:Operand} {rx ry:AR} (hop:o.op=.indexAddr t x y)
  (hx:okR x rx=true) (hy:okR y ry=true) (ht:P.underlying t=some (.array len e)) {z:Nat} (hz:aO P e=some z)
  {k:IntKind} {i:Int} {v v':AV} (h1:ev σ.fr rx=v) (h2:ev σ.fr ry=.int k i) (h0:0<=i) (hlt:i < len)
  (hv':(∃ s k,v=.loc s k/\v'=.loc s (k+i.toNat*z))\/(∃ s k,v=.ptr s k/\v'=.ptr s (k+i.toNat*z))\/(∃ l,v=.ip l/\v'=.ip (l.drop (i.toNat*z)))) :
  o.wp P a w (aR E (put σ o.dst v')) Q:=by
 obtain⟨inf,hi,hin⟩:=cO hz;have hrd:=hs.rd hx h1;have e2:=hs.rdNat hy h2;have hrun:∀ b n,a.eval x=.pointer (some ⟨b,n,none⟩)->(execOp a.eval o).run P w=.ok (.value (.pointer (some ⟨b,n+i.toNat*z,none⟩))) w:=by
  intro b n he;simp [execOp,hop,he,e2,Instr.indexAt,asIntOf,Instr.sureAddr,run_underlying ht,h0,hlt,sizeOf,typeInfo,hi,hin,cG]
 rcases hv' with ⟨s,n,rfl,rfl⟩ | ⟨s,n,rfl,rfl⟩ | ⟨l,rfl,rfl⟩
 ·exact aG hs hd (hrun _ _ hrd.2) rfl ⟨hrd.1,rfl⟩
 ·exact aG hs hd (hrun _ _ hrd.2) rfl ⟨hrd.1,rfl⟩
 ·obtain⟨b,n,h1,h2⟩:=hrd
  exact aG hs hd (hrun _ _ h1) rfl ⟨b,_,rfl,h2.drop _⟩
theorem FA (hs:Sim E g σ a w) (hd:∀ d,o.dst=some d->d < E.nt) {t:TypeId} {x y:Operand} {rx ry:AR} (hop:o.op=.index t x y)
  (hx:okR x rx=true) (hy:okR y ry=true) (ht:P.underlying t=some .string)
  {s:List UInt8} {k:IntKind} {i:Int} {c:UInt8} (h1:ev σ.fr rx=.str s) (h2:ev σ.fr ry=.int k i) (h0:0<=i) (hc:s[i.toNat]?=some c) :
  o.wp P a w (aR E (put σ o.dst (.int .u8 (c.toNat:Int)))) Q:=by
 obtain⟨b,e1,e1'⟩:=hs.rdStr hx h1;have e2:=hs.rdNat hy h2;have hb:b[i.toNat]?=some c:=by
  rw[<- e1'] at hc;obtain⟨h3,h4⟩:=List.getElem?_eq_some_iff.1 hc;have h5:i.toNat < b.size:=by simpa using h3
  rw[getElem?_pos b i.toNat h5];have h6:b[i.toNat]=b.data[i.toNat]'(by simpa using h3):=rfl;rw[h6];simpa using h4
 refine aG hs hd (val:=.int .u8 (c.toNat:Int)) ?_ rfl rfl;simp [execOp,hop,e1,e2,Instr.index,asIntOf,run_underlying ht,h0,hb]
theorem FD (hs:Sim E g σ a w) (hd:∀ d,o.dst=some d->d < E.nt) {x:Operand} {r:AR} {i:Nat} (hop:o.op=.extract x i)
  (hx:okR x r=true) {l:List AV} {v:AV} (h1:ev σ.fr r=.tup l) (hv:l[i]?=some v) :
  o.wp P a w (aR E (put σ o.dst v)) Q:=by
 obtain⟨vs,e1,e2⟩:=hs.rd hx h1;obtain⟨u,hu,hr⟩:=e2.get hv;have hu':vs[i]?=some u:=by simpa using hu
 have hr':aK (cx E g σ w) aN v u/\aH v=v:=by
  cases v with
  | ptr=>exact⟨hr,rfl⟩
  | ss=>exact⟨hr,rfl⟩
  | mp=>exact⟨hr,rfl⟩
  | mapv=>simp [aJ,aD] at hr
  | aggR=>simp [aJ,aD] at hr
  | agg=>exact⟨hr,rfl⟩
  | any=>simp [aJ,aD] at hr
  | undef=>simp [aJ,aD] at hr
  | loc=>simp [aJ,aD] at hr
  | ip=>simp [aJ,aD] at hr
  | fn=>simp [aJ,aD] at hr
  | tup=>simp [aJ,aD] at hr
  | int k n=>exact⟨(aD.top (c:=cx E g σ w) hr).1,rfl⟩
  | bool b=>exact⟨(aD.top (c:=cx E g σ w) hr).1,rfl⟩
  | str s=>exact⟨(aD.top (c:=cx E g σ w) hr).1,rfl⟩
  | nilp=>exact⟨(aD.top (c:=cx E g σ w) hr).1,rfl⟩
  | sl m z l =>
   have:=aD.top (c:=cx E g σ w) (ow:=aN) (x:=.sl m z l) hr
   exact⟨this.1,this.2.1⟩
 refine aG hs hd (val:=u) ?_ hr'.2 hr'.1;simp [execOp,hop,e1,Instr.extract,hu']
end
end Go.Av
namespace Go.Av
variable [Gtab]
open Go.RowKit
section
variable {P:Program} {E:Env} {g g':Gh} {σ σ1:AS} {a:Act} {w w':World} {o:Oper} {Q:Exit->Act->World->Prop}
theorem CE {kd:Nat->BK} {t:Ow} {v:Value} {z n:Nat} (hh:∀ b k,kd b=.own t k->w'.heap[b]?=w.heap[b]?) (h:c8 kd w t v z n):c8 kd w' t v z n:=by
 obtain⟨A,c,e1,e2⟩:=h;refine⟨A,c,e1,?_⟩;rcases e2 with e2 | ⟨b,ar,tt,e3,e4,e5,e6⟩
 ·exact .inl e2
 ·exact .inr ⟨b,ar,tt,e3,(hh b _ e6).trans e4,e5,e6⟩
theorem Sim.addLoc (h:Sim E g σ a w) {d b:Nat} {cells:List AV} (hn:σ.lo d=none) (hk:g.kd b=.loc d) (hb:E.w0.heap.size<=b) (ho:jT (cx E g σ w) (fun _=>aN) w b (2*cells.length) cells) :
  Sim E { g with lam:=upd g.lam d b } { σ with lo:=upd σ.lo d (some cells) } a w:=by
 have hle:Cx.le (cx E g σ w) (cx E { g with lam:=upd g.lam d b } { σ with lo:=upd σ.lo d (some cells) } w):=by
  refine⟨fun b' n hs=>⟨hs,rfl⟩,Nat.le_refl _,fun _ _=>rfl,fun _ _=>rfl,fun s hs=>?_⟩;have hsd:s≠d:=by rintro rfl;simp [cx,hn] at hs
  simp only[cx] at hs ⊢;simp [upd,hsd,hs]
 refine { h with slots:=?_,loc:=?_,shr:=?_ }
 ·intro t
  exact aK.mono hle _ _ (fun _ _ _ h=>h) (h.slots t)
 ·intro i c hi hd
  obtain⟨h1,h2⟩:=h.shr i c hi hd;exact⟨h1,h2.mono hle rfl (fun _ _ _ _ _ h=>h)⟩
 ·intro s c hs
  simp only[upd] at hs ⊢;by_cases hsd:s=d
  ·subst hsd
   rw[if_pos rfl] at hs;cases hs;rw[if_pos rfl];exact⟨hk,hb,ho.mono hle rfl (fun _ _ _ _ _ h=>h)⟩
  ·rw[if_neg hsd] at hs ⊢
   obtain⟨h1,h2,h3⟩:=h.loc s c hs;exact⟨h1,h2,h3.mono hle rfl (fun _ _ _ _ _ h=>h)⟩
theorem Sim.addShr (h:Sim E g σ a w) {b n:Nat} {cells:List AV} (hk:g.kd b=.shr σ.sh.length) (hb:E.w0.heap.size<=b) (hlt:b < w.heap.size)
  (ho:cells≠bJ->nT (cx E g σ w) (fun j=>c8 g.kd w (.cell σ.sh.length j)) w b n cells) :
  Sim E { g with β:=upd g.β σ.sh.length b,bs:=upd g.bs σ.sh.length n } { σ with sh:=σ.sh++[cells] } a w /\
  Cx.le (cx E g σ w) (cx E { g with β:=upd g.β σ.sh.length b,bs:=upd g.bs σ.sh.length n } { σ with sh:=σ.sh++[cells] } w):=by
 have hle:Cx.le (cx E g σ w) (cx E { g with β:=upd g.β σ.sh.length b,bs:=upd g.bs σ.sh.length n } { σ with sh:=σ.sh++[cells] } w):=by
  refine⟨fun b' n hs=>⟨hs,rfl⟩,by simp [cx],fun i hi=>?_,fun i hi=>?_,fun s hs=>⟨hs,rfl⟩⟩ <;>
  ·simp only[cx] at hi ⊢
   simp [upd,Nat.ne_of_lt hi]
 have hn0:=h.n0;have hne:∀ i,i < E.n0->¬ i=σ.sh.length:=fun i hi=>by omega
 refine⟨{ h with slots:=?_,shr:=?_,shr0:=?_,shr1:=?_,shrlt:=?_,shrk:=?_,loc:=?_,n0:=by simp;omega,dd:=fun i hi hd=>by rw[getElem?_append_left (by omega)];exact h.dd i hi hd },hle⟩
 ·intro t
  exact aK.mono hle _ _ (fun _ _ _ h=>h) (h.slots t)
 ·intro i c hi hd
  simp only[upd];rw[getElem?_append] at hi
  split at hi
  ·rename_i hil
   rw[if_neg (Nat.ne_of_lt hil),if_neg (Nat.ne_of_lt hil)];obtain⟨h1,h2⟩:=h.shr i c hi hd;exact⟨h1,h2.mono hle rfl (fun _ _ _ _ _ h=>h)⟩
  ·rename_i hge
   have hi':i=σ.sh.length:=by
    have:=(List.getElem?_eq_some_iff.1 hi).1
    simp at this;omega
   subst hi';simp at hi;subst hi;rw[if_pos rfl,if_pos rfl];exact⟨hk,(ho hd).mono hle rfl (fun _ _ _ _ _ h=>h)⟩
 ·intro i hi
  simp only[upd];rw[if_neg (hne i hi),if_neg (hne i hi)];exact h.shr0 i hi
 ·intro i hi hn
  simp only[upd];split
  ·exact .inl hb
  ·rcases h.shr1 i (by simp at hi;omega) hn with h9 | ⟨j0,h9,h10,h11,h12⟩
   ·exact .inl h9
   ·exact .inr ⟨j0,h9,h10,h11,by rw[getElem?_append_left (by omega)];exact h12⟩
 ·intro i hi
  simp only[upd];split
  ·exact hlt
  ·exact h.shrlt i (by simp at hi;omega)
 ·intro i hi
  simp only[upd];split
  ·exact⟨_,hk⟩
  ·exact h.shrk i (by simp at hi;omega)
 ·intro s c hs
  obtain⟨h1,h2,h3⟩:=h.loc s c hs;exact⟨h1,h2,h3.mono hle rfl (fun _ _ _ _ _ h=>h)⟩
theorem Sim.setBlk (h:Sim E g σ a w) {b:Nat} (hsz:w'.heap.size=w.heap.size) (hother:∀ b',b'≠b->w'.heap[b']?=w.heap[b']?)
  (hk:(∃ i,g.kd b=.shr i/\i < σ.sh.length/\g.β i=b)\/(∃ s,g.kd b=.loc s/\E.w0.heap.size<=b)) :
  (∀ b' n,SS E g w b' n->SS E g w' b' n/\w'.cell? ⟨b',n,none⟩=w.cell? ⟨b',n,none⟩) /\
  (∀ t v z n,c8 g.kd w t v z n->c8 g.kd w' t v z n):=by
 refine⟨fun b' n hs=>?_,fun t v z n=>CE fun b' k hk'=>hother b' ?_⟩
 ·have hne:b'≠b:=by
   rintro rfl
   rcases hk with ⟨i,hk,hi,hbi⟩ | ⟨s,hk,hge⟩
   ·exact SS.nshr h hs hi hbi
   ·rcases hs with ⟨h1,_⟩ | ⟨_,_,h3⟩ | ⟨_,_,_,h3,_⟩
    ·omega
    ·rw[hk] at h3;cases h3
    ·rw[hk] at h3;cases h3
  refine⟨?_,by simp [World.cell?,hother b' hne]⟩;rcases hs with hs | ⟨h1,h2,h3⟩ | ⟨h1,h2⟩
  ·exact .inl hs
  ·exact .inr (.inl ⟨h1,by rw[hsz];exact h2,h3⟩)
  ·exact .inr (.inr ⟨by rw[hsz];exact h1,h2⟩)
 ·rintro rfl
  rcases hk with ⟨i,hk,_⟩ | ⟨s,hk,_⟩<;>rw[hk] at hk'<;>cases hk'
theorem Sim.setLoc (h:Sim E g σ a w) {s:Nat} {cells cells':List AV} {arr arr':Array Value} {ty:TypeId} {fz:Nat × Nat} (hs:σ.lo s=some cells) (hlen:cells'.length=cells.length)
  (hb:w.heap[g.lam s]?=some (.cells arr ty fz)) (hz:z9 fz arr.size) (hsa:arr'.size=arr.size) (hr:∀ (j:Nat) (x:AV),cells'[j]?=some x->∃ v,arr'[j]?=some v/\aX (cx E g σ w) aN x v) :
  Sim E g { σ with lo:=upd σ.lo s (some cells') } a (w.setRow (g.lam s) arr'):=by
 obtain⟨k1,k2,k3⟩:=h.loc s cells hs;have hother:∀ b',b'≠g.lam s->(w.setRow (g.lam s) arr').heap[b']?=w.heap[b']?:=fun b' hne=>setRow_other w _ b' _ hne
 have hsz:(w.setRow (g.lam s) arr').heap.size=w.heap.size:=by simp [World.setRow]
 obtain⟨hm,how⟩:=h.setBlk hsz hother (.inr ⟨s,k1,k2⟩);have hnew:=setRow_heap w _ arr arr' ty fz hb;have hle:Cx.le (cx E g σ w) (cx E g { σ with lo:=upd σ.lo s (some cells') } (w.setRow (g.lam s) arr')):=by
  refine⟨hm,Nat.le_refl _,fun _ _=>rfl,fun _ _=>rfl,fun s' hs'=>⟨?_,rfl⟩⟩;show (upd σ.lo s (some cells') s').isSome=true;unfold upd;split
  ·rfl
  ·exact hs'
 have hsz0:arr.size=cells.length:=by
  obtain⟨arr2,ty2,fz2,e1,_,e2,_⟩:=k3;rw[hb] at e1;cases e1;have:=e2.1;omega
 refine { h with slots:=?_,shr:=?_,shrlt:=?_,loc:=?_,hsize:=by rw[hsz];exact h.hsize,frame:=?_,sframe:=?_ }
 ·intro t
  exact aK.mono hle _ _ (fun _ _ _=>how _ _ _ _) (h.slots t)
 ·intro i c hi hd
  obtain⟨j1,j2⟩:=h.shr i c hi hd;exact⟨j1,j2.mono hle (hother _ (by intro e;rw[e,k1] at j1;cases j1)) (fun _ _ _ _ _=>how _ _ _ _)⟩
 ·intro i hi;rw[hsz];exact h.shrlt i hi
 ·intro s' c hs'
  simp only[upd] at hs';by_cases he:s'=s
  ·subst he
   rw[if_pos rfl] at hs';cases hs';refine⟨k1,k2,arr',ty,fz,hnew,by rw[hsa];exact hz,⟨by omega,fun h=>by omega⟩,fun j x hx=>?_⟩;obtain⟨v,h1,h2⟩:=hr j x hx;exact⟨v,h1,aX.mono hle _ _ (fun _ _ _ h=>h) h2⟩
  ·rw[if_neg he] at hs'
   obtain⟨j1,j3,j4⟩:=h.loc s' c hs';refine⟨j1,j3,j4.mono hle (hother _ ?_) (fun _ _ _ _ _ h=>h)⟩;intro e;rw[e,k1] at j1;injection j1 with j1;exact he j1.symm
 ·intro b h1 h2 h3
  rw[hother b (by omega)];exact h.frame b h1 h2 h3
 ·intro b n hs0
  rw[<- h.sframe b n hs0];exact (hm b n (.inl ⟨(h.s0 b n hs0).1,hs0⟩)).2
theorem Sim.setObj (h:Sim E g σ a w) {i:Nat} {cells cells':List AV} (hi:σ.sh[i]?=some cells) (hd:cells≠bJ)
  (hsz:w'.heap.size=w.heap.size) (hother:∀ b',b'≠g.β i->w'.heap[b']?=w.heap[b']?) (hos:w'.os=w.os) (htape:w'.tape=w.tape) (hout:w'.output=w.output)
  (hobj:Cx.le (cx E g σ w) (cx E g { σ with sh:=σ.sh.set i cells' } w')->(∀ t v z n,c8 g.kd w t v z n->c8 g.kd w' t v z n)->cells'≠bJ ->
   nT (cx E g { σ with sh:=σ.sh.set i cells' } w') (fun j=>c8 g.kd w' (.cell i j)) w' (g.β i) (g.bs i) cells') :
  Sim E g { σ with sh:=σ.sh.set i cells' } a w':=by
 obtain⟨k1,_⟩:=h.shr i cells hi hd;have hlt:i < σ.sh.length:=(List.getElem?_eq_some_iff.1 hi).1;obtain⟨hm,how⟩:=h.setBlk hsz hother (.inl ⟨i,k1,hlt,rfl⟩);have hle:Cx.le (cx E g σ w) (cx E g { σ with sh:=σ.sh.set i cells' } w'):=
  ⟨hm,by simp [cx],fun _ _=>rfl,fun _ _=>rfl,fun s' hs'=>⟨hs',rfl⟩⟩
 refine { h with os:=hos.trans h.os,tape:=htape.trans h.tape,output:=hout.trans h.output,slots:=?_,shr:=?_,shr1:=?_,shrlt:=?_,shrk:=?_,loc:=?_,hsize:=by rw[hsz];exact h.hsize,frame:=?_,sframe:=?_,n0:=by simpa using h.n0,dd:=?_ }
 ·intro t
  exact aK.mono hle _ _ (fun _ _ _=>how _ _ _ _) (h.slots t)
 ·intro j c hj hdj
  by_cases he:j=i
  ·subst he
   rw[getElem?_set_self hlt] at hj;cases hj;exact⟨k1,hobj hle how hdj⟩
  ·rw[getElem?_set_ne (Ne.symm he)] at hj
   obtain⟨j1,j2⟩:=h.shr j c hj hdj;refine⟨j1,j2.mono hle (hother _ ?_) (fun _ _ _ _ _=>how _ _ _ _)⟩;intro e;rw[e,k1] at j1;injection j1 with j1;exact he j1.symm
 ·intro j hj hn
  rcases h.shr1 j (by simpa using hj) hn with h9 | ⟨j0,h9,h10,h11,h12⟩
  ·exact .inl h9
  ·refine .inr ⟨j0,h9,h10,h11,?_⟩
   rw[getElem?_set_ne (by rintro rfl;rw[hi] at h12;cases h12;exact hd rfl)];exact h12
 ·intro j hj hdj
  have h9:=h.dd j hj hdj;rw[getElem?_set_ne (by rintro rfl;rw[hi] at h9;cases h9;exact hd rfl)];exact h9
 ·intro j hj;rw[hsz];exact h.shrlt j (by simpa using hj)
 ·intro j hj;exact h.shrk j (by simpa using hj)
 ·intro s' c hs'
  obtain⟨j1,j3,j4⟩:=h.loc s' c hs';refine⟨j1,j3,j4.mono hle (hother _ ?_) (fun _ _ _ _ _ h=>h)⟩;intro e;rw[e,k1] at j1;cases j1
 ·intro b h1 h2 h3
  rw[hother b ?_]
  ·exact h.frame b h1 h2 h3
  ·rintro rfl
   rcases Nat.lt_or_ge i E.n0 with hn | hn
   ·exact h2 i hn (h.shr0 i hn).1.symm
   ·rcases h.shr1 i hlt hn with h9 | ⟨j0,h9,h10,_⟩
    ·omega
    ·exact h2 j0 h9 h10
 ·intro b n hs0
  rw[<- h.sframe b n hs0];exact (hm b n (.inl ⟨(h.s0 b n hs0).1,hs0⟩)).2
theorem Sim.setShr (h:Sim E g σ a w) {i:Nat} {cells cells':List AV} {arr arr':Array Value} {ty:TypeId} {fz:Nat × Nat} (hi:σ.sh[i]?=some cells) (hd:cells≠bJ)
  (hb:w.heap[g.β i]?=some (.cells arr ty fz)) (hz:z9 fz arr.size) (hsa:arr'.size=arr.size) (hbs:bsz fz arr.size (g.bs i))
  (hr:∀ (j:Nat) (x:AV),cells'[j]?=some x->∃ v,arr'[j]?=some v/\aX (cx E g σ w) (c8 g.kd w (.cell i j)) x v) :
  Sim E g { σ with sh:=σ.sh.set i cells' } a (w.setRow (g.β i) arr'):=by
 refine h.setObj hi hd (by simp [World.setRow]) (fun b' hne=>setRow_other w _ b' _ hne) rfl rfl rfl (fun hle how _=>⟨fun _=>⟨arr',ty,fz,setRow_heap w _ arr arr' ty fz hb,by rw[hsa];exact hz,by rw[hsa];exact hbs,fun j x hx=>?_⟩,?_⟩)
 ·obtain⟨v,h1,h2⟩:=hr j x hx
  exact⟨v,h1,aX.mono hle _ _ (fun _ _ _=>how _ _ _ _) h2⟩
 ·unfold kR
  split
  ·rename_i l
   obtain⟨v,_,h2⟩:=hr 0 _ rfl;simp [aX,aJ,aD] at h2
  ·trivial
end
end Go.Av
namespace Go.Av
variable [Gtab]
open Go.RowKit
section
variable {P:Program} {E:Env} {g g':Gh} {σ σ1:AS} {a:Act} {w w':World} {o:Oper} {Q:Exit->Act->World->Prop}
theorem fG {e:TypeId} {zero:List AV} (h:eZ P e zero=true):∃ i zv,P.info? e=some i/\i.zero=some zv/\okL zv.cells.toList zero=true/\i.size=zero.length:=by
 unfold eZ at h
 split at h
 ·rename_i i hi
  rw[Bool.and_eq_true] at h;obtain⟨h1,h2⟩:=h
  split at h1
  ·rename_i zv hz
   exact⟨i,zv,hi,hz,h1,by simpa using h2⟩
  ·cases h1
 ·cases h
theorem oM {e:TypeId} {zero:List AV} (h:jJ P e zero=true):∃ i zv,P.info? e=some i/\i.zero=some zv/\uB zv.cells.toList zero=true/\i.size=zero.length:=by
 unfold jJ at h
 split at h
 ·rename_i i hi
  rw[Bool.and_eq_true] at h;obtain⟨h1,h2⟩:=h
  split at h1
  ·rename_i zv hz
   exact⟨i,zv,hi,hz,h1,by simpa using h2⟩
  ·cases h1
 ·cases h
theorem lJ {c:Cx}:∀ {vs:List Value} {l:List AV},uB vs l=true->aI (aX c aN) l vs
 | [],[],_=>trivial
 | v :: vs,x :: l,h=>by
  unfold uB at h
  split at h
  ·rename_i h1 h2;cases h1
  ·rename_i h1 h2
   cases h1;cases h2
   exact⟨trivial,lJ h⟩
  ·rename_i h1 h2
   cases h1;cases h2
   rw[Bool.and_eq_true] at h;exact⟨(cQ (n6 h.1)).2,lJ h.2⟩
  ·cases h
 | [],_ :: _,h=>by simp [uB] at h
 | v :: vs,[],h=>by simp [uB] at h
theorem qO {c:Cx} {ow:Nat->Value->Nat->Nat->Prop} {l:List AV} {arr:Array Value} (h:aI (aX c aN) l arr.toList):∀ (j:Nat) (x:AV),l[j]?=some x->∃ v,arr[j]?=some v/\aX c (ow j) x v:=by
 intro j x hx;obtain⟨v,h1,h2⟩:=h.get hx;exact⟨v,by simpa using h1,aX.mono (Cx.le.refl c) x v (fun _ _ _ q=>q.elim) h2⟩
theorem jZ {c:Cx} {ow:Nat->Value->Nat->Nat->Prop} {l:List AV} {arr:Array Value} (h:aI (aD c.S c.w) l arr.toList):∀ (j:Nat) (x:AV),l[j]?=some x->∃ v,arr[j]?=some v/\aX c (ow j) x v:=by
 intro j x hx;obtain⟨v,h1,h2⟩:=h.get hx;refine⟨v,by simpa using h1,?_⟩
 cases x with
 | sl m z l =>
  cases m with
  | own =>
   simp only[aD] at h2;obtain⟨_,_,_,_,_,h6,_⟩:=h2;exact absurd rfl h6
  | no=>exact h2
  | full=>exact h2
 | any=>trivial
 | undef=>simp [aD] at h2
 | int=>exact h2
 | bool=>exact h2
 | str=>exact h2
 | nilp=>exact h2
 | _=>simp [aD] at h2
theorem Sim.newLoc (h:Sim E g σ a w) {d:Nat} {cells:List AV} {cs:Array Value} {e:TypeId} (hn:σ.lo d=none) (hr:aI (aD (SS E g w) w) cells cs.toList) :
  Sim E { g with kd:=upd g.kd w.heap.size (.loc d),lam:=upd g.lam d w.heap.size } { σ with lo:=upd σ.lo d (some cells) } a (w.alloc (.cells cs e)):=by
 obtain⟨h1,hle⟩:=h.alloc (.cells cs e) (.loc d);have hlen:=hr.length;simp only[Array.length_toList] at hlen;exact h1.addLoc hn (by simp [upd]) h.hsize ⟨cs,e,(0,0),heap_alloc_new w _,.inl rfl,⟨by omega,fun h=>by omega⟩,jZ (ow:=fun _=>aN) (hr.mono (aD.mono hle.cell))⟩
theorem Sim.newShr (h:Sim E g σ a w) {cells:List AV} {cs:Array Value} {e:TypeId} (hr:∀ (j:Nat) (x:AV),cells[j]?=some x->∃ v,cs[j]?=some v/\aX (cx E g σ w) aN x v) :
  ∃ g',Sim E g' { σ with sh:=σ.sh++[cells] } a (w.alloc (.cells cs e))/\Cx.le (cx E g σ w) (cx E g' { σ with sh:=σ.sh++[cells] } (w.alloc (.cells cs e)))/\g'.β σ.sh.length=w.heap.size/\g'.bs σ.sh.length=2*cs.size+1:=by
 obtain⟨h1,hle⟩:=h.alloc (.cells cs e) (.shr σ.sh.length)
 have:=h1.addShr (b:=w.heap.size) (n:=2*cs.size+1) (cells:=cells) (by simp [upd]) h.hsize (by simp) (fun hd=>⟨fun _=>⟨cs,e,(0,0),heap_alloc_new w _,.inl rfl,⟨by omega,fun _=>rfl⟩,fun j x hx=>?_⟩,?_⟩)
 ·exact⟨_,this.1,⟨fun b n hs=>⟨(this.2.cell b n (hle.cell b n hs).1).1,(hle.cell b n hs).2⟩,by simp [cx],fun i hi=>by simp only[cx] at hi ⊢;simp [upd,Nat.ne_of_lt hi],fun i hi=>by simp only[cx] at hi ⊢;simp [upd,Nat.ne_of_lt hi],fun s hs=>⟨hs,rfl⟩⟩,by simp [upd],by simp [upd]⟩
 ·obtain⟨v,h2,h3⟩:=hr j x hx
  exact⟨v,h2,aX.mono hle _ _ (fun _ _ _ h=>h.elim) h3⟩
 ·unfold kR
  split
  ·obtain⟨v,_,h3⟩:=hr 0 _ rfl
   simp [aX,aJ,aD] at h3
  ·trivial
theorem zP (hs:Sim E g σ a w) {d:Nat} (hdst:o.dst=some d) (hd:d < E.nt) {e:TypeId} {zero:List AV} (hop:o.op=.alloc e) (hz:eZ P e zero=true) (hn:σ.lo d=none) :
  o.wp P a w (aR E (put { σ with lo:=upd σ.lo d (some zero) } o.dst (.loc d 0))) Q:=by
 obtain⟨i,zv,h1,h2,h3,_⟩:=fG hz;refine bP (hs.newLoc (cs:=zv.cells) (e:=e) hn (f9 h3)) (val:=.pointer (some ⟨w.heap.size,0,none⟩)) ?_ fun d' h=>?_
 ·simp [execOp,hop,Instr.alloc,zeroValue,typeInfo,h1,h2,newVar,newRow]
 ·rw[hdst] at h;cases h
  exact⟨hd,by simp [cx,upd],by simp [cx,upd]⟩
theorem vT (hs:Sim E g σ a w) {d:Nat} (hdst:o.dst=some d) (hd:d < E.nt) {e:TypeId} {zero:List AV} (hop:o.op=.alloc e) (hz:jJ P e zero=true) :
  o.wp P a w (aR E (put { σ with sh:=σ.sh++[zero] } o.dst (.ptr σ.sh.length 0))) Q:=by
 obtain⟨i,zv,h1,h2,h3,_⟩:=oM hz;obtain⟨g',k1,k2,k3,k4⟩:=hs.newShr (cs:=zv.cells) (e:=e) (cells:=zero) (qO (c:=cx E g σ w) (ow:=fun _=>aN) (lJ h3));refine bP k1 (val:=.pointer (some ⟨w.heap.size,0,none⟩)) ?_ fun d' h=>?_
 ·simp [execOp,hop,Instr.alloc,zeroValue,typeInfo,h1,h2,newVar,newRow]
 ·rw[hdst] at h;cases h
  exact⟨hd,by simp [cx],by simp [cx,k3]⟩
theorem FH (hs:Sim E g σ a w) {d:Nat} (hdst:o.dst=some d) (hd:d < E.nt) {e:TypeId} {x:Operand} {r:AR} {n:Nat} {cs:List AV} (hop:o.op=.box e x) (hx:okR x r=true) (hc:bB n (ev σ.fr r)=some cs) (hn:σ.lo d=none) :
  o.wp P a w (aR E (put { σ with lo:=upd σ.lo d (some cs) } o.dst (.loc d 0))) Q:=by
 obtain⟨_,hr,_⟩:=hs.rdT hx;obtain⟨h3,_⟩:=iD hc hr;refine bP (hs.newLoc (cs:=(a.eval x).cells) (e:=e) hn h3) (val:=.pointer (some ⟨w.heap.size,0,none⟩)) ?_ fun d' h=>?_
 ·simp [execOp,hop,Instr.box,newVar,newRow]
 ·rw[hdst] at h;cases h
  exact⟨hd,by simp [cx,upd],by simp [cx,upd]⟩
theorem BM (hs:Sim E g σ a w) {d:Nat} (hdst:o.dst=some d) (hd:d < E.nt) {e:TypeId} {x:Operand} {r:AR} {n:Nat} {cs:List AV} (hop:o.op=.box e x) (hx:okR x r=true) (hc:bB n (ev σ.fr r)=some cs) :
  o.wp P a w (aR E (put { σ with sh:=σ.sh++[cs] } o.dst (.ptr σ.sh.length 0))) Q:=by
 obtain⟨_,hr,_⟩:=hs.rdT hx;obtain⟨h3,_⟩:=iD hc hr;obtain⟨g',k1,k2,k3,k4⟩:=hs.newShr (cs:=(a.eval x).cells) (e:=e) (cells:=cs) (jZ (c:=cx E g σ w) (ow:=fun _=>aN) h3);refine bP k1 (val:=.pointer (some ⟨w.heap.size,0,none⟩)) ?_ fun d' h=>?_
 ·simp [execOp,hop,Instr.box,newVar,newRow]
 ·rw[hdst] at h;cases h
  exact⟨hd,by simp [cx],by simp [cx,k3]⟩
theorem fI {t:TypeId} {agg:Bool} {n:Nat} (h:dD P t agg n=true):(∀ w,(isAgg t).run P w=.ok agg w)/\(∀ w,(sizeOf t).run P w=.ok n w):=by
 unfold dD at h;simp only[Bool.and_eq_true] at h;obtain⟨⟨h1,h2⟩,h3⟩:=h;obtain⟨u,hu⟩:=Option.isSome_iff_exists.1 h1;cases hi:P.info? t with
 | none=>rw[hi] at h3;cases h3
 | some i =>
  rw[hi] at h3;have hn:i.size=n:=by simpa using h3
  refine⟨fun w=>?_,fun w=>by simp [sizeOf,typeInfo,hi,hn]⟩;have h2':wB P t=agg:=by simpa using h2
  simp only[wB,hu] at h2';unfold isAgg;simp only[Sem.run_bind,run_underlying hu,Result.andThen_ok];subst h2';cases u<;>rfl
theorem lP {t:TypeId} {agg:Bool} {n off:Nat} {b:Nat} {vs:List Value} (h:dD P t agg n=true) (hl:vs.length=n)
  (hc:∀ j v,vs[j]?=some v->w.cell? ⟨b,off+j,none⟩=some v) (h1:agg=false->∃ x,vs=[x]) :
  ∃ val,(Instr.loadAt t (.pointer (some ⟨b,off,none⟩))).run P w=.ok val w/\((agg=true/\val=.agg vs.toArray)\/(agg=false/\vs=[val])):=by
 obtain⟨ha,hsz⟩:=fI h
 cases agg with
 | true =>
  have hld:=run_loadCells_list (P:=P) w ⟨b,off,none⟩ vs (fun j v hj=>by rw[cG];exact hc j v hj);rw[hl] at hld;exact⟨.agg vs.toArray,by simp [Instr.loadAt,Instr.sureAddr,loadVar,ha,hsz,hld],.inl ⟨rfl,rfl⟩⟩
 | false =>
  obtain⟨x,rfl⟩:=h1 rfl
  have:w.cell? ⟨b,off,none⟩=some x:=by simpa using hc 0 x rfl
  exact⟨x,by simp [Instr.loadAt,Instr.sureAddr,loadVar,ha,this],.inr ⟨rfl,rfl⟩⟩
theorem GJ (hs:Sim E g σ a w) (hd:∀ d,o.dst=some d->d < E.nt) {t:TypeId} {x:Operand} {agg:Bool} {n off b:Nat} (hop:o.op=.load t x) (hsz:dD P t agg n=true)
  (he:a.eval x=.pointer (some ⟨b,off,none⟩)) {cells:List AV} {v:AV} (ht:eA agg off n cells=some v) {vs:List Value}
  (hvs:aI (aD (SS E g w) w) ((cells.drop off).take n) vs) (hc:∀ j u,vs[j]?=some u->w.cell? ⟨b,off+j,none⟩=some u) :
  o.wp P a w (aR E (put σ o.dst v)) Q:=by
 obtain⟨h1,h2,h3⟩:=mJ (c:=cx E g σ w) ht hvs
 obtain⟨val,h4,h5⟩:=lP (P:=P) hsz h1 hc (fun ha=>by
  rcases h2 with ⟨e,_⟩ | ⟨_,x,e,_⟩
  ·rw[ha] at e;cases e
  ·exact⟨x,e⟩)
 refine aG hs hd (val:=val) ?_ h3 ?_
 ·simp [execOp,hop,he,h4]
 ·rcases h2 with ⟨e1,e2⟩ | ⟨e1,y,e2,e3⟩<;>rcases h5 with ⟨f1,f2⟩ | ⟨f1,f2⟩
  ·rw[f2];exact e2
  ·rw[e1] at f1;cases f1
  ·rw[e1] at f1;cases f1
  ·rw[e2] at f2;cases f2;exact e3
theorem kQ {S:Nat->Nat->Prop} {b o:Nat}:∀ {cells:List AV},cW S w cells b o->∀ n,∃ vs,aI (aD S w) (cells.take n) vs/\∀ j u,vs[j]?=some u->w.cell? ⟨b,o+j,none⟩=some u
 | _,_,0=>⟨[],by simp [aI],by simp⟩
 | [],_,_+1=>⟨[],by simp [aI],by simp⟩
 | c :: cs,h,n+1=>by
  simp only[cW] at h;obtain⟨⟨_,u,h1,h2⟩,h3⟩:=h;obtain⟨vs,h4,h5⟩:=kQ h3 n;refine⟨u :: vs,⟨h2,h4⟩,fun j x hx=>?_⟩
  cases j with
  | zero=>simp at hx;subst hx;simpa using h1
  | succ j =>
   have:=h5 j x (by simpa using hx)
   rwa [show o+1+j=o+(j+1) from by omega] at this
theorem uM (hs:Sim E g σ a w) (hd:∀ d,o.dst=some d->d < E.nt) {t:TypeId} {x:Operand} {agg:Bool} {n off b:Nat} (hop:o.op=.load t x) (hsz:dD P t agg n=true)
  (he:a.eval x=.pointer (some ⟨b,off,none⟩)) {cells:List AV} {v:AV} (ht:ldC agg off n cells=some v) {ow:Nat->Value->Nat->Nat->Prop} {m:Nat} (hb:jT (cx E g σ w) ow w b m cells) :
  o.wp P a w (aR E (put σ o.dst v)) Q:=by
 obtain⟨arr,ty,fz,h1,_,h2,h3⟩:=hb;obtain⟨h4,h5⟩:=x8 ht h3;have hcell:∀ j u,arr[off+j]?=some u->w.cell? ⟨b,off+j,none⟩=some u:=fun j u hu=>by
  simp [World.cell?,h1];simpa using hu
 rcases h5 with ⟨rfl,vs,h6,h7,h8⟩ | ⟨rfl,u,h6,h7⟩
 ·obtain⟨val,h9,h10⟩:=lP (P:=P) (off:=off) hsz h6 (fun j u hu=>hcell j u (h7 j u hu)) (fun h=>by cases h)
  rcases h10 with ⟨_,rfl⟩ | ⟨h10,_⟩
  ·refine aG hs hd (val:=.agg vs.toArray) ?_ h4 h8
   simp [execOp,hop,he,h9]
  ·cases h10
 ·have hn:∃ n',n=n':=⟨n,rfl⟩
  obtain⟨ha,_⟩:=fI hsz;have hc0:w.cell? ⟨b,off,none⟩=some u:=by simpa using hcell 0 u (by simpa using h6)
  refine aG hs hd (val:=u) ?_ h4 h7;simp [execOp,hop,he,Instr.loadAt,Instr.sureAddr,loadVar,ha,hc0]
theorem E8 (hs:Sim E g σ a w) (hd:∀ d,o.dst=some d->d < E.nt) {t:TypeId} {x:Operand} {r:AR} {agg:Bool} {n:Nat} (hop:o.op=.load t x) (hx:okR x r=true) (hsz:dD P t agg n=true)
  {s off:Nat} {cells:List AV} {v:AV} (he:ev σ.fr r=.loc s off) (hl:σ.lo s=some cells) (ht:ldC agg off n cells=some v) :
  o.wp P a w (aR E (put σ o.dst v)) Q:=by
 have hrd:=hs.rd hx he;exact uM hs hd hop hsz hrd.2 ht (hs.loc s cells hl).2.2
theorem GL {agg:Bool} {off n:Nat} {cells:List AV} {v:AV} (h:ldC agg off n cells=some v) (hn:n≠0\/agg=false):bV cells=true/\cells≠bJ:=by
 have key:∀ y,(y=.undef\/∃ l,y=.mapv l)->ldC agg off n [y]=some v->False:=by
  intro y hy h;unfold ldC at h
  split at h
  ·rename_i ha
   split at h
   ·rename_i hc
    obtain⟨h1,h2⟩:=hc;have hn':n≠0:=by
     rcases hn with hn | hn
     ·exact hn
     ·rw[ha] at hn;cases hn
    have:off=0/\n=1:=by
     rw[length_take,length_drop] at h1;simp at h1;omega
    obtain⟨rfl,rfl⟩:=this;rcases hy with rfl | ⟨l,rfl⟩<;>simp [a8,aH] at h2
   ·cases h
  ·cases off with
   | zero =>
    simp only[getElem?_cons_zero] at h;rcases hy with rfl | ⟨l,rfl⟩<;>simp [ldV] at h
   | succ k=>simp at h
 constructor
 ·cases hb:bV cells with
  | true=>rfl
  | false =>
   unfold bV at hb
   split at hb
   ·exact (key _ (.inr ⟨_,rfl⟩) h).elim
   ·exact (key _ (.inl rfl) h).elim
   ·cases hb
 ·rintro rfl
  exact key _ (.inl rfl) h
theorem xD (hs:Sim E g σ a w) (hd:∀ d,o.dst=some d->d < E.nt) {t:TypeId} {x:Operand} {r:AR} {agg:Bool} {n:Nat} (hop:o.op=.load t x) (hx:okR x r=true) (hsz:dD P t agg n=true)
  {s off:Nat} {cells:List AV} {v:AV} (he:ev σ.fr r=.ptr s off) (hl:σ.sh[s]?=some cells) (ht:ldC agg off n cells=some v) :
  o.wp P a w (aR E (put σ o.dst v)) Q:=by
 have hrd:=hs.rd hx he;by_cases hn:n≠0\/agg=false
 ·obtain⟨h1,h2⟩:=GL ht hn
  exact uM hs hd hop hsz hrd.2 ht ((hs.shr s cells hl h2).2.1 h1)
 ·have hn0:n=0:=by
   by_cases h:n=0
   ·exact h
   ·exact absurd (.inl h) hn
  have ha:agg=true:=by
   cases agg
   ·exact absurd (.inr rfl) hn
   ·rfl
  subst hn0;subst ha;have hv:v=.agg []:=by
   unfold ldC at ht;simpa using ht.symm
  subst hv;obtain⟨val,h9,h10⟩:=lP (P:=P) (w:=w) (b:=g.β s) (off:=off) (vs:=[]) hsz rfl (fun j u hu=>by simp at hu) (fun h=>by cases h);rcases h10 with ⟨_,rfl⟩ | ⟨h10,_⟩
  ·refine aG hs hd (val:=.agg #[]) ?_ rfl ⟨#[],rfl,trivial⟩
   have e:=hrd.2;simp only[cx] at e;simp [execOp,hop,e,h9]
  ·cases h10
theorem E9 (hs:Sim E g σ a w) (hd:∀ d,o.dst=some d->d < E.nt) {t:TypeId} {x:Operand} {r:AR} {agg:Bool} {n:Nat} (hop:o.op=.load t x) (hx:okR x r=true) (hsz:dD P t agg n=true)
  {cells:List AV} {v:AV} (he:ev σ.fr r=.ip cells) (ht:eA agg 0 n cells=some v) :
  o.wp P a w (aR E (put σ o.dst v)) Q:=by
 obtain⟨b,k,h1,h2⟩:=hs.rd hx he;obtain⟨vs,h3,h4⟩:=kQ h2 n;have h5:eA agg k n (List.replicate k .any++cells)=some v:=by
  unfold eA at ht ⊢;simpa using ht
 have h6:aI (aD (SS E g w) w) (((List.replicate k AV.any++cells).drop k).take n) vs:=by simpa [cx] using h3
 exact GJ hs hd hop hsz h1 h5 h6 h4
theorem cT {S:Nat->Nat->Prop} {c:Cx}:∀ {l:List AV} {vs:List Value},aI (aD c.S c.w) l vs->∀ v∈vs,v.oneCell'=true
 | [],[],_,_,hv=>by cases hv
 | x :: l,v :: vs,h,u,hu=>by
  rcases mem_cons.1 hu with rfl | hu
  ·have h1:=h.1
   cases x with
   | int k n=>simp only[aD] at h1;subst h1;rfl
   | bool b=>simp only[aD] at h1;subst h1;rfl
   | str s=>simp only[aD] at h1;obtain⟨b,rfl,_⟩:=h1;rfl
   | nilp=>simp only[aD] at h1;subst h1;rfl
   | sl m z l=>simp only[aD] at h1;obtain⟨A,cp,rfl,_⟩:=h1;rfl
   | _=>simp [aD] at h1
  ·exact cT (S:=S) h.2 u hu
 | [],_ :: _,h,_,_=>by simp [aI] at h
 | _ :: _,[],h,_,_=>by simp [aI] at h
theorem f8 {off:Nat} {cs cells c':List AV} (h:d6 off cs cells=some c'):off+cs.length<=cells.length/\c'=cells.take off++cs++cells.drop (off+cs.length):=by
 unfold d6 at h
 split at h
 ·cases h;exact⟨by assumption,rfl⟩
 ·cases h
theorem cM (P:Program) (b o:Nat) (t:TypeId) (fz:Nat × Nat):∀ (vs:List Value) (i:Nat) (cur:Array Value) (w:World),w.heap[b]?=some (.cells cur t fz)->z9 fz cur.size->o+i+vs.length<=cur.size->(∀ v∈vs,v.oneCell'=true) ->
  (storeCells ⟨b,o,none⟩ vs i).run P w=.ok () (w.setRow b (cur.toList.take (o+i)++vs++cur.toList.drop (o+i+vs.length)).toArray)
 | [],i,cur,w,hg,_,_,_=>by
  simp only[storeCells,append_nil,length_nil,Nat.add_zero,take_append_drop,Array.toArray_toList];rw[Av.setRow_self hg];rfl
 | v :: vs,i,cur,w,hg,hz,hl,h1=>by
  simp only[length_cons] at hl;have hi:o+i < cur.size:=by omega
  have hcell:w.cell? ⟨b,o+i,none⟩=some cur[o+i]:=by simp [World.cell?,hg,hi]
  have hfro:w.frozen? ⟨b,o+i,none⟩=false:=by
   simp only[World.frozen?,hg];rcases hz with rfl | hz
   ·simp
   ·simp;omega
  have hst:(store ((⟨b,o,none⟩:Addr).add i) v).run P w=.ok () (w.setRow b (cur.setIfInBounds (o+i) v)):=by
   rw[cG,run_store P w _ v _ (h1 v (by simp)),hcell];simp [hfro,setCell_eq_setRow w b (o+i) cur t fz v hg]
  have ih:=cM P b o t fz vs (i+1) (cur.setIfInBounds (o+i) v) (w.setRow b (cur.setIfInBounds (o+i) v)) (setRow_heap w b cur _ t _ hg) (by simpa using hz) (by simp;omega) (fun x hx=>h1 x (by simp [hx]));simp only[storeCells,Sem.run_bind,hst,Result.andThen_ok,ih,setRow_setRow];have e:=list_seg_step cur.toList (o+i) v vs (by simp;omega)
  congr 3
  simpa [Array.toList_setIfInBounds,Nat.add_assoc] using e
theorem sF {t:TypeId} {x y:Operand} {n off b:Nat} (hop:o.op=.store t x y) (hsz:aO P t=some n) (hdst:o.dst=none)
  (he:a.eval x=.pointer (some ⟨b,off,none⟩)) {arr:Array Value} {ty:TypeId} {fz:Nat × Nat} (hb:w.heap[b]?=some (.cells arr ty fz)) (hz:z9 fz arr.size)
  (hlen:(a.eval y).cells.size=n) (hfit:off+n<=arr.size) (h1:∀ v∈(a.eval y).cells.toList,v.oneCell'=true)
  {K:Act->World->Prop} (hK:K a (w.setRow b (arr.toList.take off++(a.eval y).cells.toList++arr.toList.drop (off+n)).toArray)):o.wp P a w K Q:=by
 obtain⟨i,hi,hin⟩:=cO hsz;have hst:=cM P b off ty fz (a.eval y).cells.toList 0 arr w hb hz (by simpa [hlen] using hfit) h1;simp only[Nat.add_zero,Array.length_toList,hlen] at hst;have hrun:(execOp a.eval o).run P w=.ok .skip (w.setRow b (arr.toList.take off++(a.eval y).cells.toList++arr.toList.drop (off+n)).toArray):=by
  simp [execOp,hop,he,Instr.storeAt,Instr.sureAddr,storeVar,sizeOf,typeInfo,hi,hin,hlen,hst]
 unfold Oper.wp;rw[hrun];show K (a.put o.dst undef) _;rw[hdst];exact hK
theorem J1 {R:AV->Value->Prop} {off:Nat} {cs cells:List AV} {vs arr:List Value} (h1:aI R cells arr) (h2:aI R cs vs) :
  aI R (cells.take off++cs++cells.drop (off+cs.length)) (arr.take off++vs++arr.drop (off+vs.length)):=by
 rw[h2.length];exact ((h1.take off).append h2).append (h1.drop _)
theorem iT {c:Cx} {ow:Nat->Value->Nat->Nat->Prop} {off:Nat} {cs cells:List AV} {arr us:List Value} (hlen:cs.length=us.length) (hfit:off+cs.length<=cells.length)
  (h1:∀ (j:Nat) (x:AV),cells[j]?=some x->∃ u,arr[j]?=some u/\aX c (ow j) x u) (h2:∀ (j:Nat) (y:AV),cs[j]?=some y->∃ u,us[j]?=some u/\aX c aN y u) :
  ∀ (j:Nat) (x:AV),(cells.take off++cs++cells.drop (off+cs.length))[j]?=some x->∃ u,(arr.take off++us++arr.drop (off+us.length)).toArray[j]?=some u/\aX c (ow j) x u:=by
 have hal:cells.length<=arr.length:=by
  by_cases h0:cells.length=0
  ·omega
  ·obtain⟨u,h3,_⟩:=h1 (cells.length - 1) _ (getElem?_eq_getElem (by omega))
   have:=(List.getElem?_eq_some_iff.1 h3).1
   omega
 intro j x hx;rw[getElem?_toArray];rw[append_assoc,getElem?_append,length_take] at hx;rw[append_assoc,getElem?_append,length_take];have e1:min off cells.length=off:=by omega
 have e2:min off arr.length=off:=by omega
 rw[e1] at hx;rw[e2]
 split at hx
 ·rename_i hj
  rw[if_pos hj];rw[getElem?_take_of_lt hj] at hx ⊢;exact h1 j x hx
 ·rename_i hj
  rw[if_neg hj];rw[getElem?_append] at hx ⊢;rw[<- hlen]
  split at hx
  ·rename_i hj2
   rw[if_pos hj2];obtain⟨u,h3,h4⟩:=h2 _ x hx;exact⟨u,h3,aX.mono (Cx.le.refl c) _ _ (fun _ _ _ h=>h.elim) h4⟩
  ·rename_i hj2
   rw[if_neg hj2];rw[getElem?_drop] at hx ⊢;have e3:off+cs.length+(j - off - cs.length)=j:=by omega
   rw[e3] at hx ⊢;exact h1 j x hx
theorem EQ (hs:Sim E g σ a w) {t:TypeId} {x y:Operand} {rx ry:AR} {n:Nat} (hop:o.op=.store t x y) (hdst:o.dst=none) (hx:okR x rx=true) (hy:okR y ry=true) (hsz:aO P t=some n)
  {s off:Nat} {cells cs c':List AV} (he:ev σ.fr rx=.loc s off) (hl:σ.lo s=some cells) (hc:dC n (ev σ.fr ry)=some cs) (hp:d6 off cs cells=some c') :
  o.wp P a w (aR E { σ with lo:=upd σ.lo s (some c') }) Q:=by
 have hrd:=hs.rd hx he;obtain⟨_,hr,_⟩:=hs.rdT hy;obtain⟨h3,h4,h40,h41⟩:=iE hc hr;obtain⟨h5,rfl⟩:=f8 hp;obtain⟨_,_,arr,ty,fz,h6,hz,h7,h8⟩:=hs.loc s cells hl;have h7':=h7.1;refine sF hop hsz hdst hrd.2 h6 hz h4 (by omega) h40 ?_;refine⟨g,hs.setLoc hl (by simp;omega) h6 hz (by simp;omega) ?_⟩
 have:=iT (off:=off) (us:=(a.eval y).cells.toList) (arr:=arr.toList) (by simp;omega) h5 (by simpa using h8) (by simpa using h41)
 simpa [h4] using this
theorem EP (hs:Sim E g σ a w) {t:TypeId} {x y:Operand} {rx ry:AR} {n:Nat} (hop:o.op=.store t x y) (hdst:o.dst=none) (hx:okR x rx=true) (hy:okR y ry=true) (hsz:aO P t=some n)
  {s off:Nat} {cells cs c':List AV} (he:ev σ.fr rx=.ptr s off) (hl:σ.sh[s]?=some cells) (hbk:bV cells=true) (hc:dC n (ev σ.fr ry)=some cs) (hp:d6 off cs cells=some c') :
  o.wp P a w (aR E { σ with sh:=σ.sh.set s c' }) Q:=by
 have hrd:=hs.rd hx he;obtain⟨_,hr,_⟩:=hs.rdT hy;obtain⟨h3,h4,h40,h41⟩:=iE hc hr;obtain⟨h5,rfl⟩:=f8 hp;have hnd:cells≠bJ:=by rintro rfl;simp [bV,bJ] at hbk
 obtain⟨h51,h52,_⟩:=hs.shr s cells hl hnd;obtain⟨arr,ty,fz,h6,hz,h7,h8⟩:=h52 hbk;have hal:cells.length<=arr.size:=by
  by_cases h0:cells.length=0
  ·omega
  ·obtain⟨u,h9,_⟩:=h8 (cells.length - 1) _ (getElem?_eq_getElem (by omega))
   have:=(Array.getElem?_eq_some_iff.1 h9).1
   omega
 refine sF hop hsz hdst hrd.2 h6 hz h4 (by omega) h40 ?_;refine⟨g,hs.setShr hl hnd h6 hz (by simp;omega) h7 ?_⟩
 have:=iT (off:=off) (us:=(a.eval y).cells.toList) (arr:=arr.toList) (by simp;omega) h5 (by simpa using h8) (by simpa using h41)
 simpa [h4] using this
end
end Go.Av
