/- A part of the frame (Ev12a Ev12b Ev12c Ev12d). No conditions. -/
import Derived.Test.YtgbjlnijjonidaaGreatDoorG1Ev8to11b
import Derived.Lib.ConvBytes
import Derived.Laws.BytesString
import Derived.Laws.MakeOwn
import Derived.MapKept
open List
set_option linter.unusedSimpArgs false
set_option linter.unusedVariables false
set_option linter.unusedSectionVars false
set_option maxRecDepth 100000
set_option maxHeartbeats 16000000
namespace Go.Av
variable [Gtab]
open Go.RowKit
section
variable {P:Program} {E:Env} {g g':Gh} {σ σ1:AS} {a:Act} {w w':World} {o:Oper} {Q:Exit->Act->World->Prop}
theorem cF {cells:List AV} (h:bV cells=true):cells≠bJ:=by
 rintro rfl;simp [bV,bJ] at h
theorem E6 (hs:Sim E g σ a w) (hd:∀ d,o.dst=some d->d < E.nt) {t:TypeId} {x:Operand} {r:AR} (hop:o.op=.load t x) (hx:okR x r=true) (hsz:dD P t false 1=true)
  {s off:Nat} {cells:List AV} (he:ev σ.fr r=.ptr s off) (hl:σ.sh[s]?=some cells) (hbk:bV cells=true) {z:Nat} {l:LL} (hc:cells[off]?=some (.sl .own z l)) :
  o.wp P a w (aR E (put { σ with sh:=σ.sh.set s (cells.set off (.sl .no z l)) } o.dst (.sl .own z l))) Q:=by
 have hrd:=hs.rd hx he;have hnd:=cF hbk;have hoff:off < cells.length:=(List.getElem?_eq_some_iff.1 hc).1;have hsl:s < σ.sh.length:=(List.getElem?_eq_some_iff.1 hl).1;obtain⟨k1,k2,_⟩:=hs.shr s cells hl hnd;obtain⟨arr,ty,fz,h1,hz,h2,h3⟩:=k2 hbk;obtain⟨v,h4,h5,h6⟩:=h3 off _ hc;have hs1:Sim E g { σ with sh:=σ.sh.set s (cells.set off (.sl .no z l)) } a w:=by
  refine hs.setObj hl hnd rfl (fun _ _=>rfl) rfl rfl rfl (fun hle how _=>⟨fun _=>⟨arr,ty,fz,h1,hz,h2,fun j y hj=>?_⟩,?_⟩)
  ·by_cases hjo:off=j
   ·subst hjo
    rw[getElem?_set_self hoff] at hj;cases hj;exact⟨v,h4,aD.le hle h5⟩
   ·rw[getElem?_set_ne hjo] at hj
    obtain⟨u,h7,h8⟩:=h3 j y hj;exact⟨u,h7,aX.mono hle _ _ (fun _ _ _=>how _ _ _ _) h8⟩
  ·unfold kR
   split
   ·rename_i m hm
    exfalso;have h9:(cells.set off (.sl .no z l))[off]?=some (.sl .no z l):=by rw[getElem?_set_self hoff]
    rw[hm] at h9
    cases off with
    | zero=>simp at h9
    | succ k=>simp at h9
   ·trivial
 have hrun:(execOp a.eval o).run P w=.ok (.value v) w:=by
  obtain⟨ha,_⟩:=fI hsz;have e:=hrd.2;have hc0:w.cell? ⟨g.β s,off,none⟩=some v:=by simp [World.cell?,h1];simpa using h4
  have e':a.eval x=.pointer (some ⟨g.β s,off,none⟩):=e;simp [execOp,hop,e',Instr.loadAt,Instr.sureAddr,loadVar,ha,hc0]
 have hfree:mW { σ with sh:=σ.sh.set s (cells.set off (.sl .no z l)) } (.cell s off):=by
  intro cells' z' l' hc' _ e
  have:(σ.sh.set s (cells.set off (.sl .no z l)))[s]?=some (cells.set off (.sl .no z l)):=getElem?_set_self hsl
  rw[this] at hc';cases hc';rw[getElem?_set_self hoff] at e;cases e
 obtain⟨A,c,hv,hown⟩:=h6;have hm0:∀ b n,SS E g w b n->SS E g w b n/\w.cell? ⟨b,n,none⟩=w.cell? ⟨b,n,none⟩:=fun _ _ h=>⟨h,rfl⟩
 rcases hown with hown | ⟨b,arr1,ty1,e1,e2,e3,e4⟩
 ·exact bP hs1 hrun fun d hdd=>⟨hd d hdd,h5,A,c,hv,.inl hown⟩
 ·cases hdst:o.dst with
  | none =>
   have:=bP (o:=o) (P:=P) (Q:=Q) (x:=.sl .own z l) hs1 hrun (fun d h=>by rw[hdst] at h;cases h)
   rwa [hdst] at this
  | some d =>
   obtain⟨hs2,hle2⟩:=hs1.turn (t':=.slot d) (k':=l.length*z) (arr':=arr1) e2 e4 hfree (Nat.le_refl _) (fun _ _=>rfl);rw[setRow_self e2] at hs2 hle2
   have:=bP (o:=o) (P:=P) (Q:=Q) (x:=.sl .own z l) hs2 hrun (fun d' h=>⟨hd d' h,by
    rw[hdst] at h;cases h
    exact⟨aD.le hle2 h5,A,c,hv,.inr ⟨b,arr1,ty1,e1,e2,e3,by simp [upd]⟩⟩⟩)
   rwa [hdst] at this
theorem E7 (hs:Sim E g σ a w) (hd:∀ d,o.dst=some d->d < E.nt) {t:TypeId} {x:Operand} {r:AR} (hop:o.op=.load t x) (hx:okR x r=true) (hsz:dD P t false 1=true)
  {s off:Nat} {cells:List AV} (he:ev σ.fr r=.ptr s off) (hl:σ.sh[s]?=some cells) {z:Nat} {l:LL} (hc:cells[off]?=some (.sl .full z l)) :
  o.wp P a w (aR E (put σ o.dst (.sl .full z l))) Q:=
 xD hs hd hop hx hsz he hl (by simp [ldC,hc,ldV])
theorem EO (hs:Sim E g σ a w) {t:TypeId} {x y:Operand} {rx ry:AR} (hop:o.op=.store t x y) (hdst:o.dst=none) (hx:okR x rx=true) (hy:okR y ry=true) (hsz:aO P t=some 1)
  {dem:Option Nat} (hdem:(∃ s,ry=.t s/\dem=some s)\/(∃ v,ry=.c v/\dem=none))
  {s off:Nat} {cells:List AV} (he:ev σ.fr rx=.ptr s off) (hl:σ.sh[s]?=some cells) (hbk:bV cells=true) (hoff:off < cells.length) {m:Own} {z:Nat} {l:LL} (hv:ev σ.fr ry=.sl m z l) :
  o.wp P a w (aR E (cI { σ with sh:=σ.sh.set s (cells.set off (.sl m z l)) } dem)) Q:=by
 have hrd:=hs.rd hx he;have hnd:=cF hbk;obtain⟨A,c,v1,v2,v3,v4⟩:=hs.rdSl hy hv;have hvF:aD (SS E g w) w (.sl .no z l) (a.eval y):=by
  rw[v1];simp only[aD];exact⟨A,c,rfl,v2,by simp,by simp,v4⟩
 have h1c:(a.eval y).oneCell'=true:=(cQ (c:=cx E g σ w) hvF).1;have hcs:(a.eval y).cells=#[a.eval y]:=by rw[v1];rfl
 have hstep:∃ g1,Sim E g1 (cI σ dem) a w/\g1.β=g.β/\g1.bs=g.bs/\Cx.le (cx E g σ w) (cx E g1 (cI σ dem) w)/\aX (cx E g1 (cI σ dem) w) (c8 g1.kd w (.cell s off)) (.sl m z l) (a.eval y):=by
  have hsd:=hs.dem_ dem;have hcx:cx E g (cI σ dem) w=cx E g σ w:=by cases dem<;>rfl
  cases m with
  | no=>exact⟨g,hsd,rfl,rfl,by rw[hcx];exact Cx.le.refl _,hvF⟩
  | full =>
   refine⟨g,hsd,rfl,rfl,by rw[hcx];exact Cx.le.refl _,?_⟩;show aD _ _ (.sl .full z l) _;rw[v1];simp only[aD];exact⟨A,c,rfl,v2,fun _=>v3 rfl,by simp,v4⟩
  | own =>
   obtain⟨s1,hs1,A',c',hv',h2⟩:=xR hs hy hdem hv;rcases h2 with h2 | ⟨b,arr,ty,h3,h4,h5,h6⟩
   ·exact⟨g,hsd,rfl,rfl,by rw[hcx];exact Cx.le.refl _,hvF,A',c',hv',.inl h2⟩
   ·subst hs1
    have hfree:mW (cI σ (some s1)) (.slot s1):=by
     intro z' l' e;simp only[cI,upd,if_true] at e
     have:=congrArg aH e
     rw[gS,e] at this;simp [aH] at this
    obtain⟨k1,k2⟩:=hsd.turn (t':=.cell s off) (k':=l.length*z) (arr':=arr) h4 h6 hfree (Nat.le_refl _) (fun _ _=>rfl);rw[setRow_self h4] at k1 k2;refine⟨_,k1,rfl,rfl,k2,aD.le k2 hvF,A',c',hv',.inr ⟨b,arr,ty,h3,h4,h5,by simp [upd]⟩⟩
 obtain⟨g1,hs1,hβ,hbs,hle,hrep⟩:=hstep;have hl1:(cI σ dem).sh[s]?=some cells:=by rw[(by cases dem<;>rfl:(cI σ dem).sh=σ.sh)];exact hl
 obtain⟨k1,k2,_⟩:=hs1.shr s cells hl1 hnd;obtain⟨arr,ty,fz,h1,hz,h2,h3⟩:=k2 hbk;have hal:off < arr.size:=by
  obtain⟨u,h4,_⟩:=h3 off _ (getElem?_eq_getElem hoff);exact (Array.getElem?_eq_some_iff.1 h4).1
 have e1:a.eval x=.pointer (some ⟨g1.β s,off,none⟩):=by rw[hβ];exact hrd.2
 refine sF hop hsz hdst e1 h1 hz (by rw[hcs];rfl) (by omega) (by rw[hcs];simpa using h1c) ?_;have hset:(arr.toList.take off++(a.eval y).cells.toList++arr.toList.drop (off+1)).toArray=arr.setIfInBounds off (a.eval y):=by
  rw[hcs];apply Array.ext';rw[Array.toList_setIfInBounds];show arr.toList.take off++[a.eval y]++arr.toList.drop (off+1)=_;rw[set_eq_take_append_cons_drop,if_pos (by simpa using hal)];simp
 rw[hset]
 have hfin:=hs1.setShr (cells':=cells.set off (.sl m z l)) (arr':=arr.setIfInBounds off (a.eval y)) hl1 hnd h1 hz (by simp) h2 (fun j y' hj=>by
  by_cases hjo:off=j
  ·subst hjo
   rw[getElem?_set_self hoff] at hj;cases hj;exact⟨a.eval y,by simp [hal],hrep⟩
  ·rw[getElem?_set_ne hjo] at hj
   obtain⟨u,h7,h8⟩:=h3 j y' hj
   exact⟨u,by rw[Array.getElem?_setIfInBounds_ne hjo];exact h7,h8⟩)
 have hsame:({ (cI σ dem) with sh:=(cI σ dem).sh.set s (cells.set off (.sl m z l)) }:AS)=cI { σ with sh:=σ.sh.set s (cells.set off (.sl m z l)) } dem:=by cases dem<;>rfl
 rw[hsame] at hfin;exact⟨g1,hfin⟩
theorem AD {t:TypeId} {k:IntKind} (h:mS P t k=true):P.underlying t=some (.int k):=by
 unfold mS at h
 split at h
 ·rename_i hq;rw[hq];simp at h;rw[h]
 ·cases h
theorem mR {t:TypeId} (h:i7 P t=true):P.underlying t=some .string:=by
 unfold i7 at h
 split at h
 ·assumption
 ·cases h
theorem iC {t:TypeId} (h:eE P t=true):∃ e,P.underlying t=some (.slice e)/\P.underlying e=some (.int .u8):=by
 unfold eE at h
 split at h
 ·rename_i e hq;exact⟨e,hq,AD h⟩
 ·cases h
open Lib in
theorem EV (hs:Sim E g σ a w) (hd:∀ d,o.dst=some d->d < E.nt) {src dst:TypeId} {x:Operand} {r:AR} (hop:o.op=.convert src dst x) (hx:okR x r=true) (h1:i7 P src=true) (h2:eE P dst=true)
  {s:List UInt8} (he:ev σ.fr r=.str s) :
  o.wp P a w (aR E (put { σ with sh:=σ.sh++[s.map fun b=>.int .u8 (b.toNat:Int)] } o.dst (.ss σ.sh.length 0 s.length 1))) Q:=by
 obtain⟨b,e1,e2⟩:=hs.rdStr hx he;obtain⟨e,he1,he2⟩:=iC h2;have hsz:b.size=s.length:=by rw[<- e2];simp
 have hcap:b.size<=grownCap w b.size 0 e:=grownCap_ge w _ _ _;have hbc:(bytesCells w e b).size=grownCap w b.size 0 e:=by simp [bytesCells];omega
 obtain⟨k1,hle⟩:=hs.world (g':={ g with kd:=upd g.kd w.heap.size (.shr σ.sh.length) }) (w':=bytesWorld w e b) (by simp [bytesWorld,World.freeze];rfl) (by simp [bytesWorld,World.freeze]) (by simp [bytesWorld,World.freeze];rfl)
  (by rw[bytesWorld_size];omega) (fun j hj=>bytesWorld_at_old w e b j hj) (fun b hb=>by simp [upd,Nat.ne_of_lt hb]) rfl rfl rfl
 have hnew:=k1.addShr (b:=w.heap.size) (n:=2*(bytesCells w e b).size) (cells:=s.map fun b=>.int .u8 (b.toNat:Int)) (by simp [upd]) hs.hsize (by rw[bytesWorld_size];omega) (fun hdd=>⟨fun _=>⟨_,e,_,bytesWorld_at_new w e b,.inr (Nat.le_refl _),⟨by omega,fun h=>by omega⟩,fun j y hj=>?_⟩,?_⟩)
 ·refine bP hnew.1 (val:=.slice (some ⟨w.heap.size,0,none⟩) b.size (grownCap w b.size 0 e)) ?_ fun d hdd=>⟨hd d hdd,?_⟩
  ·have:=run_convert_string_bytes (P:=P) w src dst e b (mR h1) he1 he2
   simp [execOp,hop,e1,this]
  ·refine⟨by simp [cx],grownCap w b.size 0 e,?_,by omega,?_,fun h=>absurd rfl h⟩
   ·simp [cx,upd,hsz]
   ·simp [cx,upd,hbc]
 ·rw[getElem?_map] at hj
  obtain⟨c,hc,rfl⟩:=Option.map_eq_some_iff.1 hj;have hlt:j < s.length:=(List.getElem?_eq_some_iff.1 hc).1;have hjb:j < b.size:=by omega
  refine⟨.int .u8 (c.toNat:Int),?_,rfl⟩;unfold bytesCells;rw[Array.getElem?_append_left (by simpa using hjb)]
  have:b.data[j]?=some c:=by
   have h9:b.data.toList[j]?=some c:=by rw[e2];exact hc
   simpa using h9
  simp [this]
 ·unfold kR
  split
  ·rename_i l hl
   cases s with
   | nil=>simp at hl
   | cons x s=>simp at hl
  ·trivial
theorem j5 {S:Nat->Nat->Prop}:∀ {l:LL} {s:List UInt8} {vs:List Value},aZ l=some s->aI (aD S w) l.flatten vs ->
  ∃ ns:List Int,vs=ns.map (Value.int .u8)/\ns.map (fun n=>UInt8.ofNat n.toNat)=s
 | [],s,vs,h,hr=>by
  simp only[aZ,Option.some.injEq] at h;subst h
  cases vs with
  | nil=>exact⟨[],rfl,rfl⟩
  | cons=>simp [aI] at hr
 | [c] :: r,s,vs,h,hr=>by
  simp only[aZ] at h
  split at h
  ·rename_i b bs h1 h2
   cases h
   cases vs with
   | nil=>simp [aI] at hr
   | cons v vs =>
    simp only[flatten_cons,cons_append,nil_append] at hr;obtain⟨ns,h3,h4⟩:=j5 h2 hr.2;unfold qB at h1
    split at h1
    ·rename_i n
     cases h1;have hv:v=.int .u8 n:=hr.1;subst hv;exact⟨n :: ns,by simp [h3],by simp [h4]⟩
    ·cases h1
  ·cases h
 | [] :: r,s,vs,h,hr=>by simp [aZ] at h
 | (_ :: _ :: _) :: r,s,vs,h,hr=>by simp [aZ] at h
theorem pS (s:List UInt8):∀ (ns:List Int) (r:ByteArray),(ns.foldl (fun r n=>r.push (UInt8.ofNat n.toNat)) r).data.toList=r.data.toList++ns.map (fun n=>UInt8.ofNat n.toNat)
 | [],r=>by simp
 | n :: ns,r=>by
  simp only[foldl_cons,map_cons];rw[pS s ns];simp [ByteArray.push]
theorem qE (hs:Sim E g σ a w) (hd:∀ d,o.dst=some d->d < E.nt) {src dst:TypeId} {x:Operand} (hop:o.op=.convert src dst x) (h1:i7 P dst=true) (h2:eE P src=true)
  {b off n c:Nat} (he:a.eval x=.slice (some ⟨b,off,none⟩) n c) {vs:List Value} {l:LL} {s:List UInt8} {S:Nat->Nat->Prop} (hl:aZ l=some s) (hr:aI (aD S w) l.flatten vs) (hlen:vs.length=n)
  (hcell:∀ j v,vs[j]?=some v->w.cell? ⟨b,off+j,none⟩=some v) :
  o.wp P a w (aR E (put σ o.dst (.str s))) Q:=by
 obtain⟨e,he1,he2⟩:=iC h2;obtain⟨ns,h3,h4⟩:=j5 hl hr;have hld:=run_loadCells_list (P:=P) w ⟨b,off,none⟩ vs (fun j v hj=>by rw[cG];exact hcell j v hj);rw[hlen,h3] at hld;have hb:=run_bytesToString (P:=P) w ⟨b,off,none⟩ n c ns hld;refine aG hs hd (val:=.string (ns.foldl (fun r n=>r.push (UInt8.ofNat n.toNat)) ByteArray.empty)) ?_ rfl ⟨_,rfl,?_⟩
 ·have:=run_convert_bytes_string (P:=P) w src dst e (some ⟨b,off,none⟩) n c he1 he2 (mR h1)
  simp [execOp,hop,he,this,hb]
 ·rw[pS s];simpa using h4
theorem l7 {s:List UInt8} (h:aZ []=some s):s=[]:=by simpa [aZ] using h.symm
theorem FK (hs:Sim E g σ a w) (hd:∀ d,o.dst=some d->d < E.nt) {src dst:TypeId} {x:Operand} {r:AR} (hop:o.op=.convert src dst x) (hx:okR x r=true) (h1:i7 P dst=true) (h2:eE P src=true)
  {m:Own} {l:LL} {s:List UInt8} (he:ev σ.fr r=.sl m 1 l) (hb:aZ l=some s) :
  o.wp P a w (aR E (put σ o.dst (.str s))) Q:=by
 obtain⟨A,c,e1,e2,_,e4⟩:=hs.rdSl hx he;by_cases hl:l=[]
 ·subst hl
  have:=l7 hb
  subst this;obtain⟨e,he1,he2⟩:=iC h2;refine aG hs hd (val:=.string .empty) ?_ rfl ⟨_,rfl,rfl⟩
  have:=run_convert_bytes_string (P:=P) w src dst e A 0 c he1 he2 (mR h1)
  cases A with
  | none=>simp [execOp,hop,e1,this,Conv.bytesToString]
  | some ad =>
   have h5:=run_bytesToString (P:=P) w ad 0 c [] rfl;simp only[foldl_nil] at h5;simp [execOp,hop,e1,this,h5]
 ·rcases e4 with e4 | ⟨b,k,rfl,e6⟩
  ·exact absurd e4 hl
  ·obtain⟨vs,v1,v2,v3,_⟩:=jQ e6
   exact qE hs hd hop h1 h2 e1 hb v2 (by simpa using v1) v3
theorem BN (hs:Sim E g σ a w) (hd:∀ d,o.dst=some d->d < E.nt) {src dst:TypeId} {x:Operand} {r:AR} (hop:o.op=.convert src dst x) (hx:okR x r=true) (h1:i7 P dst=true) (h2:eE P src=true)
  {so off n:Nat} {cells:List AV} {l:LL} {s:List UInt8} (he:ev σ.fr r=.ss so off n 1) (hc:σ.sh[so]?=some cells) (hrow:cN off n 1 cells=some l) (hb:aZ l=some s) :
  o.wp P a w (aR E (put σ o.dst (.str s))) Q:=by
 obtain⟨e0,cp,e1,e2,e3⟩:=hs.rd hx he;by_cases hn0:n=0
 ·subst hn0
  have hl:l=[]:=by
   unfold cN at hrow
   split at hrow
   ·cases hrow;rfl
   ·cases hrow
  subst hl
  have:=l7 hb
  subst this;exact qE (S:=fun _ _=>True) (vs:=[]) (l:=[]) hs hd hop h1 h2 e1 rfl trivial rfl (fun j v hj=>by simp at hj)
 ·have hcond:off+n*1<=cells.length/\((cells.drop off).take (n*1)).all (fun x=>a8 (aH x))=true:=by
   unfold cN at hrow
   split at hrow
   ·rename_i h;exact h.2
   ·cases hrow
  have hblk:bV cells=true:=by
   unfold bV;split
   ·simp at hcond;have:=hcond.1;have:off=0/\n=1:=by omega
    obtain⟨rfl,rfl⟩:=this;simp [a8,aH] at hcond
   ·simp at hcond;have:=hcond.1;have:off=0/\n=1:=by omega
    obtain⟨rfl,rfl⟩:=this;simp [a8,aH] at hcond
   ·rfl
  obtain⟨_,hob,_⟩:=hs.shr so cells hc (cF hblk);obtain⟨_,r1,r2,r3,vs,v1,v2,v3⟩:=mK (S':=fun _ _=>True) hrow (hob hblk) (fun b' n h=>⟨trivial,rfl⟩) (fun _=>trivial);exact qE hs hd hop h1 h2 e1 hb v2 (by simpa using v1) v3
end
end Go.Av
namespace Go.Av
variable [Gtab]
open Go.RowKit
section
variable {P:Program} {E:Env} {g g':Gh} {σ σ1:AS} {a:Act} {w w':World} {o:Oper} {Q:Exit->Act->World->Prop}
theorem kS (zero:List AV) (j n:Nat) (x:AV) (h:(aV zero n)[j]?=some x):j < n*zero.length/\zero[j % zero.length]?=some x:=by
 have hj:j < n*zero.length:=by
  have:=(List.getElem?_eq_some_iff.1 h).1
  rwa [cY] at this
 rw[iQ zero n j hj] at h;exact⟨hj,h⟩
theorem E3 (hs:Sim E g σ a w) (hd:∀ d,o.dst=some d->d < E.nt) {t e:TypeId} {x y:Operand} {rx ry:AR} (hop:o.op=.makeSlice t x y) (hx:okR x rx=true) (hy:okR y ry=true)
  (hu:P.underlying t=some (.slice e)) {z bytes:Nat} {zero:List AV} (hsz:aO P e=some z) (hz:eZ P e zero=true) {i:TypeInfo} (hi:P.info? e=some i) (hb:i.bytes=bytes)
  {n c:Int} (h1:ev σ.fr rx=.int .i64 n) (h2:ev σ.fr ry=.int .i64 c) (h0:0<=n) (hnc:n<=c) (hcb:c*bytes<=140737488355328) (hc63:c<=4611686018427387904) (hz0:0 < z) (hzl:zero.length=z) :
  o.wp P a w (aR E (put { σ with sh:=σ.sh++[aV zero n.toNat] } o.dst (.ss σ.sh.length 0 n.toNat z))) Q:=by
 obtain⟨i',zv,q1,q2,q3,q4⟩:=fG hz;rw[hi] at q1;cases q1;obtain⟨i2,r1,r2⟩:=cO hsz;rw[hi] at r1;cases r1;have e1:=hs.rdNat hx h1;have e2:=hs.rdNat hy h2;have hzr:=f9 (S:=SS E g w) (w:=w) q3;have hzv:zv.cells.size=z:=by have:=hzr.length;simp at this;omega
 have hcb':(i.bytes:Int)*c<=281474976710656:=by
  rw[hb,Int.mul_comm];omega
 have hmk:=run_make (P:=P) w t e i zv hu hi q2 .i64 .i64 n c h0 hnc hcb' (by omega);have hszm:(madeCells zv.cells (c.toNat*i.size)).size=c.toNat*z:=by rw[r2];exact size_madeCells _ _
 obtain⟨g',k1,k2,k3,k4⟩:=hs.newShr (cs:=madeCells zv.cells (c.toNat*i.size)) (e:=e) (cells:=aV zero n.toNat) (fun j u hj=>by
  obtain⟨j1,j2⟩:=kS zero j _ u hj;obtain⟨v,j3,j4⟩:=hzr.get j2;rw[hzl] at j1;have hjc:j < c.toNat*z:=Nat.lt_of_lt_of_le j1 (Nat.mul_le_mul_right _ (by omega));refine⟨v,?_,(cQ (c:=cx E g σ w) j4).2⟩;have h3:zv.cells[j % zero.length]?=some v:=by simpa using j3
  rw[hzl] at h3;unfold madeCells;rw[r2];simp only[Array.getElem?_map,Array.getElem?_range,hjc,if_true,Option.map_some,Option.some.injEq]
  rw[hzv,getElem!_def,h3])
 refine bP k1 (val:=.slice (some ⟨w.heap.size,0,none⟩) n.toNat c.toNat) ?_ fun d hdd=>⟨hd d hdd,?_⟩
 ·simp [execOp,hop,e1,e2,hmk]
 ·refine⟨by simp [cx],c.toNat,?_,by omega,?_⟩
  ·simp [cx,k3]
  ·exact oU (by simp only[cx,k4,hszm];omega) (by simp only[cx,k4,hszm];omega)
theorem BJ (hs:Sim E g σ a w) (hd:∀ d,o.dst=some d->d < E.nt) {t e:TypeId} {x:Operand} {rx:AR} (hop:o.op=.call { callee:=.builtin .clear,args:=#[x],argTypes:=#[t] }) (hx:okR x rx=true)
  (hu:P.underlying t=some (.slice e)) {m:Own} {z:Nat} (h1:ev σ.fr rx=.sl m z []) :
  o.wp P a w (aR E (put σ o.dst (.tup []))) Q:=by
 obtain⟨A,c,e1,_⟩:=hs.rdSl hx h1;refine aG hs hd (val:=.tuple #[]) ?_ rfl ⟨#[],rfl,trivial⟩
 cases A<;>simp [execOp,hop,resolve,invoke,builtin,e1,Builtin.clear_,run_underlying hu]
theorem fK {zv:Array Value} {n:Nat}:(Builtin.zeroCells zv n).size=n*zv.size:=by simp [Builtin.zeroCells]
theorem FG (hs:Sim E g σ a w) (hd:∀ d,o.dst=some d->d < E.nt) {t e:TypeId} {x:Operand} {rx:AR} (hop:o.op=.call { callee:=.builtin .clear,args:=#[x],argTypes:=#[t] }) (hx:okR x rx=true)
  (hu:P.underlying t=some (.slice e)) {z:Nat} {zero:List AV} (hz:eZ P e zero=true) (hzl:zero.length=z)
  {so off n:Nat} {cells c':List AV} (h1:ev σ.fr rx=.ss so off n z) (hc:σ.sh[so]?=some cells) (hbk:bV cells=true) (hp:d6 off (aV zero n) cells=some c') :
  o.wp P a w (aR E (put { σ with sh:=σ.sh.set so c' } o.dst (.tup []))) Q:=by
 obtain⟨i',zv,q1,q2,q3,q4⟩:=fG hz;obtain⟨e0,cp,e1,e2,e3⟩:=hs.rd hx h1;have hzr:=f9 (S:=SS E g w) (w:=w) q3;have hzv:zv.cells.size=z:=by have:=hzr.length;simp at this;omega
 have hnd:=cF hbk;obtain⟨k1,k2,_⟩:=hs.shr so cells hc hnd;obtain⟨arr,ty,fz,h6,hfz,h7,h8⟩:=k2 hbk;obtain⟨h5,rfl⟩:=f8 hp;have hal:cells.length<=arr.size:=by
  by_cases h0:cells.length=0
  ·omega
  ·obtain⟨u,h9,_⟩:=h8 (cells.length - 1) _ (getElem?_eq_getElem (by omega))
   have:=(Array.getElem?_eq_some_iff.1 h9).1
   omega
 have hlz:(aV zero n).length=n*z:=by rw[cY,hzl]
 have hone:∀ v∈(Builtin.zeroCells zv.cells n).toList,v.oneCell'=true:=by
  intro v hv;unfold Builtin.zeroCells at hv;simp only[Array.toList_map,mem_map] at hv;obtain⟨k,hk,rfl⟩:=hv;simp only[Array.toList_range,mem_range] at hk
  have hmod:k % zv.cells.size < zv.cells.size:=Nat.mod_lt _ (by
   rcases Nat.eq_zero_or_pos zv.cells.size with h | h
   ·rw[h] at hk;simp at hk
   ·exact h)
  have:zv.cells[k % zv.cells.size]! = zv.cells[k % zv.cells.size]:=by rw[getElem!_def,Array.getElem?_eq_getElem hmod]
  rw[this];exact cT (S:=fun _ _=>True) (c:=cx E g σ w) hzr _ (by simp)
 have hst:=cM P (g.β so) off ty fz (Builtin.zeroCells zv.cells n).toList 0 arr w h6 hfz (by simp [fK,hzv];omega) hone;simp only[Nat.add_zero] at hst;have hb:a.eval x=.slice (some ⟨g.β so,off,none⟩) n cp:=e1;have hzrun:(zeroValue e).run P w=.ok zv w:=by simp [zeroValue,typeInfo,q1,q2]
 have hnew:=hs.setShr (cells':=cells.take off++aV zero n++cells.drop (off+(aV zero n).length)) (arr':=(arr.toList.take off++(Builtin.zeroCells zv.cells n).toList++arr.toList.drop (off+(Builtin.zeroCells zv.cells n).toList.length)).toArray) hc hnd h6 hfz
  (by simp [fK,hzv];omega) h7 (by
   refine iT (by simp [fK,hzv,hlz]) h5 (by simpa using h8) (fun j y hj=>?_);obtain⟨j1,j2⟩:=kS zero j n y hj;obtain⟨v,j3,j4⟩:=hzr.get j2;rw[hzl] at j1;refine⟨v,?_,(cQ (c:=cx E g σ w) j4).2⟩;have h9:zv.cells[j % zero.length]?=some v:=by simpa using j3
   rw[hzl] at h9;unfold Builtin.zeroCells;rw[hzv];simp only[Array.toList_map,getElem?_map,Array.toList_range,getElem?_range j1,Option.map_some,Option.some.injEq]
   rw[getElem!_def,h9])
 by_cases hn0:n=0
 ·subst hn0
  have hz0:(Builtin.zeroCells zv.cells 0).toList=[]:=by simp [Builtin.zeroCells]
  rw[hz0] at hnew;have hsame:(arr.toList.take off++([]:List Value)++arr.toList.drop (off+([]:List Value).length)).toArray=arr:=by simp
  rw[hsame,setRow_self h6] at hnew;refine bP hnew (val:=.tuple #[]) ?_ fun d hdd=>⟨hd d hdd,⟨#[],rfl,trivial⟩⟩
  simp [execOp,hop,resolve,invoke,builtin,hb,Builtin.clear_,run_underlying hu]
 ·obtain⟨n',rfl⟩:∃ n',n=n'+1:=⟨n - 1,by omega⟩
  refine bP hnew (val:=.tuple #[]) ?_ fun d hdd=>⟨hd d hdd,⟨#[],rfl,trivial⟩⟩
  simp [execOp,hop,resolve,invoke,builtin,hb,Builtin.clear_,run_underlying hu,hzrun,hst]
theorem FB (hs:Sim E g σ a w) (hd:∀ d,o.dst=some d->d < E.nt) {t e:TypeId} {n z:Nat} {agg:Bool} {x y:Operand} {rx ry:AR} (hop:o.op=.index t x y) (hx:okR x rx=true) (hy:okR y ry=true)
  (hu:P.underlying t=some (.array n e)) (hsz:dD P e agg z=true) {l:List AV} {k:IntKind} {i:Int} (h1:ev σ.fr rx=.agg l) (h2:ev σ.fr ry=.int k i) (h0:0<=i) (hlt:i < n) (hl:l.length=n*z) {v:AV} (hv:eA agg (i.toNat*z) z l=some v) :
  o.wp P a w (aR E (put σ o.dst v)) Q:=by
 obtain⟨cs,e1,e2⟩:=hs.rd hx h1;have e3:=hs.rdNat hy h2;obtain⟨ha,hn⟩:=fI hsz;obtain⟨h3,h4,h5⟩:=mJ (c:=cx E g σ w) hv ((e2.drop (i.toNat*z)).take z);rcases h4 with ⟨rfl,h4⟩ | ⟨rfl,u,hu2,h4⟩
 ·refine aG hs hd (val:=.agg (cs.extract (i.toNat*z) (i.toNat*z+z))) ?_ h5 ?_
  ·simp [execOp,hop,e1,e3,Instr.index,asIntOf,run_underlying hu,asAgg,h0,hlt,part,ha,hn]
  ·have:((cs.toList.drop (i.toNat*z)).take z).toArray=cs.extract (i.toNat*z) (i.toNat*z+z):=by
    apply Array.ext';simp [extract_eq_take_drop]
   rw[this] at h4;exact h4
 ·have hy':cs[i.toNat*z]?=some u:=by
   have h0:((cs.toList.drop (i.toNat*z)).take z)[0]?=some u:=by rw[hu2];rfl
   rw[getElem?_take] at h0
   split at h0
   ·rw[getElem?_drop] at h0;simpa using h0
   ·cases h0
  refine aG hs hd (val:=u) ?_ h5 h4;simp [execOp,hop,e1,e3,Instr.index,asIntOf,run_underlying hu,asAgg,h0,hlt,part,ha,hn,hy']
end
end Go.Av
namespace Go.Av
variable [Gtab]
open Go.RowKit
section
variable {P:Program} {E:Env} {g g':Gh} {σ σ1:AS} {a:Act} {w w':World} {o:Oper} {Q:Exit->Act->World->Prop}
theorem Sim.moveObj (h:Sim E g σ a w) {i:Nat} {cells:List AV} (hi:σ.sh[i]?=some cells) (hbk:bV cells=true) (hno:cells.all fC=true) :
  Sim E { g with β:=upd g.β σ.sh.length (g.β i),bs:=upd g.bs σ.sh.length (g.bs i),kd:=upd g.kd (g.β i) (.shr σ.sh.length) } { σ with sh:=σ.sh.set i bJ++[cells] } a w /\
  Cx.le (cx E g σ w) (cx E { g with β:=upd g.β σ.sh.length (g.β i),bs:=upd g.bs σ.sh.length (g.bs i),kd:=upd g.kd (g.β i) (.shr σ.sh.length) } { σ with sh:=σ.sh.set i bJ++[cells] } w):=by
 have hlt:i < σ.sh.length:=(List.getElem?_eq_some_iff.1 hi).1;obtain⟨k1,k2⟩:=h.shr i cells hi (cF hbk);have hkd:∀ b,b≠g.β i->upd g.kd (g.β i) (.shr σ.sh.length) b=g.kd b:=fun b hb=>by simp [upd,hb]
 have hβ:∀ j,j < σ.sh.length->upd g.β σ.sh.length (g.β i) j=g.β j:=fun j hj=>by simp [upd,Nat.ne_of_lt hj]
 have hbs:∀ j,j < σ.sh.length->upd g.bs σ.sh.length (g.bs i) j=g.bs j:=fun j hj=>by simp [upd,Nat.ne_of_lt hj]
 have hle:Cx.le (cx E g σ w) (cx E { g with β:=upd g.β σ.sh.length (g.β i),bs:=upd g.bs σ.sh.length (g.bs i),kd:=upd g.kd (g.β i) (.shr σ.sh.length) } { σ with sh:=σ.sh.set i bJ++[cells] } w):=by
  refine⟨fun b n hs=>⟨?_,rfl⟩,by simp [cx],fun j hj=>hβ j hj,fun j hj=>hbs j hj,fun s hs=>⟨hs,rfl⟩⟩;have hne:b≠g.β i:=fun e=>SS.nshr h hs hlt e.symm
  rcases hs with hs | ⟨h1,h2,h3⟩ | ⟨h1,t,k,h2,h3⟩
  ·exact .inl hs
  ·exact .inr (.inl ⟨h1,h2,(hkd b hne).trans h3⟩)
  ·exact .inr (.inr ⟨h1,t,k,(hkd b hne).trans h2,h3⟩)
 have how:∀ t v z n,c8 g.kd w t v z n->c8 (upd g.kd (g.β i) (.shr σ.sh.length)) w t v z n:=by
  rintro t v z n ⟨A,c,e1,e2⟩
  refine⟨A,c,e1,?_⟩;rcases e2 with e2 | ⟨b,ar,tt,e3,e4,e5,e6⟩
  ·exact .inl e2
  ·refine .inr ⟨b,ar,tt,e3,e4,e5,(hkd b ?_).trans e6⟩
   rintro rfl
   rw[k1] at e6;cases e6
 have hn0:=h.n0;refine⟨{ h with slots:=?_,shr:=?_,shr0:=?_,shr1:=?_,shrlt:=?_,shrk:=?_,loc:=?_,n0:=by simp;omega,o0:=?_,own0:=?_,dd:=?_ },hle⟩
 ·intro t
  exact aK.mono hle _ _ (fun _ _ _=>how _ _ _ _) (h.slots t)
 ·intro j c hj hd
  rw[getElem?_append] at hj
  split at hj
  ·rename_i hjl
   rw[length_set] at hjl;by_cases hji:j=i
   ·subst hji
    rw[getElem?_set_self hlt] at hj;cases hj;exact absurd rfl hd
   ·rw[getElem?_set_ne (Ne.symm hji)] at hj
    obtain⟨j1,j2⟩:=h.shr j c hj hd;show upd g.kd _ _ (upd g.β _ _ j)=_/\nT _ _ w (upd g.β _ _ j) (upd g.bs _ _ j) c;rw[hβ j hjl,hbs j hjl];refine⟨(hkd _ ?_).trans j1,j2.mono hle rfl (fun _ _ _ _ _=>how _ _ _ _)⟩;intro e;rw[e,k1] at j1;injection j1 with j1;exact hji j1.symm
  ·rename_i hjl
   rw[length_set] at hjl;have hj':j=σ.sh.length:=by
    have:=(List.getElem?_eq_some_iff.1 hj).1
    simp at this;omega
   subst hj';simp at hj;subst hj;show upd g.kd _ _ (upd g.β _ _ _)=_/\nT _ _ w (upd g.β _ _ _) (upd g.bs _ _ _) cells;have e1:upd g.β σ.sh.length (g.β i) σ.sh.length=g.β i:=by simp [upd]
   have e2:upd g.bs σ.sh.length (g.bs i) σ.sh.length=g.bs i:=by simp [upd]
   rw[e1,e2];refine⟨by simp [upd],k2.mono hle rfl (fun j z l v hx ho=>?_)⟩;rw[all_eq_true] at hno
   have:=hno _ (mem_iff_getElem?.2 ⟨j,hx⟩)
   simp [fC] at this
 ·intro j hj
  show upd g.β _ _ j=_/\upd g.bs _ _ j=_;rw[hβ j (by omega),hbs j (by omega)];exact h.shr0 j hj
 ·intro j hj hn
  have hmv:∀ j0:Nat,σ.sh[j0]?=some bJ->(σ.sh.set i bJ++[cells])[j0]?=some bJ:=by
   intro j0 h0;have hlt0:=(List.getElem?_eq_some_iff.1 h0).1;rw[getElem?_append_left (by simpa using hlt0)];by_cases e:j0=i
   ·subst e;exact getElem?_set_self hlt0
   ·rw[getElem?_set_ne (Ne.symm e)];exact h0
  show _<=upd g.β _ _ j\/∃ j',_/\E.β0 j'=upd g.β _ _ j/\E.D0 j'=false/\(σ.sh.set i bJ++[cells])[j']?=some bJ;by_cases hjl:j < σ.sh.length
  ·rw[hβ j hjl]
   rcases h.shr1 j hjl hn with h9 | ⟨j0,h9,h10,h11,h12⟩
   ·exact .inl h9
   ·exact .inr ⟨j0,h9,h10,h11,hmv j0 h12⟩
  ·have:upd g.β σ.sh.length (g.β i) j=g.β i:=by
    have:j=σ.sh.length:=by simp at hj;omega
    simp [upd,this]
   rw[this];rcases Nat.lt_or_ge i E.n0 with hin | hin
   ·refine .inr ⟨i,hin,(h.shr0 i hin).1.symm,?_,?_⟩
    ·cases hd0:E.D0 i with
     | false=>rfl
     | true =>
      have h9:=h.dd i hin hd0;rw[hi] at h9;cases h9;exact absurd rfl (cF hbk)
    ·rw[getElem?_append_left (by simpa using hlt)];exact getElem?_set_self hlt
   ·rcases h.shr1 i hlt hin with h9 | ⟨j0,h9,h10,h11,h12⟩
    ·exact .inl h9
    ·exact .inr ⟨j0,h9,h10,h11,hmv j0 h12⟩
 ·intro j hj hd0
  have h9:=h.dd j hj hd0;have hjl:=(List.getElem?_eq_some_iff.1 h9).1;rw[getElem?_append_left (by simpa using hjl)];by_cases e:j=i
  ·subst e;exact getElem?_set_self hjl
  ·rw[getElem?_set_ne (Ne.symm e)];exact h9
 ·intro j hj
  show upd g.β _ _ j < _;by_cases hjl:j < σ.sh.length
  ·rw[hβ j hjl];exact h.shrlt j hjl
  ·have:upd g.β σ.sh.length (g.β i) j=g.β i:=by
    have:j=σ.sh.length:=by simp at hj;omega
    simp [upd,this]
   rw[this];exact h.shrlt i hlt
 ·intro j hj
  show ∃ j',upd g.kd _ _ (upd g.β _ _ j)=_;by_cases hjl:j < σ.sh.length
  ·rw[hβ j hjl]
   by_cases e:g.β j=g.β i
   ·rw[e];exact⟨_,by simp [upd];rfl⟩
   ·rw[hkd _ e];exact h.shrk j hjl
  ·have:upd g.β σ.sh.length (g.β i) j=g.β i:=by
    have:j=σ.sh.length:=by simp at hj;omega
    simp [upd,this]
   rw[this];exact⟨_,by simp [upd];rfl⟩
 ·intro s c hs
  obtain⟨j1,j2,j3⟩:=h.loc s c hs;refine⟨(hkd _ ?_).trans j1,j2,j3.mono hle rfl (fun _ _ _ _ _ h=>h)⟩;intro e;have j1':g.kd (g.lam s)=.loc s:=j1;rw[e,k1] at j1';cases j1'
 ·intro b k hk
  obtain⟨j1,j2,t,k',j3,j4⟩:=h.o0 b k hk;refine⟨j1,j2,t,k',(hkd b ?_).trans j3,j4⟩
  rintro rfl
  rw[k1] at j3;cases j3
 ·intro b t k hk
  by_cases e:b=g.β i
  ·subst e
   have:upd g.kd (g.β i) (.shr σ.sh.length) (g.β i)=.own t k:=hk
   simp [upd] at this
  ·exact h.own0 b t k ((hkd b e).symm.trans hk)
theorem Sim.killObj (h:Sim E g σ a w) {i:Nat} {cells:List AV} (hi:σ.sh[i]?=some cells) (hbk:bV cells=true):Sim E g { σ with sh:=σ.sh.set i bJ } a w:=
 h.setObj hi (cF hbk) rfl (fun _ _=>rfl) rfl rfl rfl (fun _ _ hd=>absurd rfl hd)
theorem fM (hs:Sim E g σ a w) {y:Operand} {r:AR} (hy:okR y r=true) {str:Bool} {z:Nat} {l2:LL} (h:eC str z σ.sh (ev σ.fr r)=some l2) :
  ∃ vs:List Value,vs.length=l2.length*z/\aI (aD (SS E g w) w) l2.flatten vs/\(∀ e∈l2,e.length=z) /\
   (∀ w',(Builtin.lenOf (a.eval y)).run P w'=.ok l2.length w')/\(∀ k,(Builtin.firstCells z l2.length (a.eval y)).run P { w with drawn:=k }=.ok vs.toArray { w with drawn:=k }):=by
 unfold eC at h
 split at h
 ·rename_i so off n z' he
  split at h
  ·rename_i hc
   obtain⟨_,rfl⟩:=hc;obtain⟨cells,h1,h2⟩:=Option.bind_eq_some_iff.1 h;obtain⟨e0,cp,e1,e2,e3⟩:=hs.rd hy he;by_cases hn0:n=0
   ·subst hn0
    have hl:l2=[]:=by
     unfold cN at h2
     split at h2
     ·cases h2;rfl
     ·cases h2
    subst hl;refine⟨[],by simp,by simp [aI],by simp,fun w'=>by simp [e1,Builtin.lenOf],fun k=>?_⟩;rw[e1];simp [Builtin.firstCells,loadCells,loadCellsFrom]
   ·have hz:0 < z'/\off+n*z'<=cells.length/\((cells.drop off).take (n*z')).all (fun x=>a8 (aH x))=true:=by
     unfold cN at h2
     split at h2
     ·rename_i h;exact h
     ·cases h2
    have hpos:0 < n*z':=Nat.mul_pos (by omega) hz.1;have hblk:bV cells=true:=by
     have key:∀ y,cells=[y]->a8 (aH y)=true:=by
      rintro y rfl
      have:off=0/\n*z'=1:=by have:=hz.2.1;simp at this;omega
      obtain⟨rfl,h1⟩:=this;have h3:=hz.2.2;rw[h1] at h3;simpa using h3
     unfold bV;split
     ·have:=key _ rfl;simp [aH,a8] at this
     ·have:=key _ rfl;simp [aH,a8] at this
     ·rfl
    obtain⟨_,hob,_⟩:=hs.shr so cells h1 (cF hblk)
    obtain⟨arr,ty,fz,q1,_,q2,q3⟩:=hob hblk;have hrep:aI (aD (SS E g w) w) (((cells.drop off).take (n*z')).map aH) ((arr.toList.drop off).take (n*z')):=by
     refine fX off (n*z') aH hz.2.1 fun j x hj hx=>?_
     obtain⟨u,h3,h4⟩:=q3 _ x hx;have h5:=hz.2.2;rw[all_eq_true] at h5;refine⟨u,h3,lZ (c:=cx E g σ w) (h5 x (mem_iff_getElem?.2 ⟨j,?_⟩)) h4⟩;rw[getElem?_take_of_lt hj,getElem?_drop];exact hx
    have hlen:(((cells.drop off).take (n*z')).map aH).length=n*z':=by simp;omega
    obtain⟨f1,f2,f3⟩:=eU z' n _ hlen;have hl2:l2=cH z' n (((cells.drop off).take (n*z')).map aH):=by
     unfold cN at h2;rw[if_pos hz] at h2;cases h2;rfl
    subst hl2;have hcell:∀ j v,((arr.toList.drop off).take (n*z'))[j]?=some v->∀ k,({ w with drawn:=k }:World).cell? ⟨g.β so,off+j,none⟩=some v:=by
     intro j v hv k;rw[getElem?_take] at hv
     split at hv
     ·rw[getElem?_drop] at hv
      simp [World.cell?,q1];simpa using hv
     ·cases hv
    have hlv:((arr.toList.drop off).take (n*z')).length=n*z':=by rw[hrep.length];exact hlen
    have e1':a.eval y=.slice (some ⟨g.β so,off,none⟩) n cp:=e1;refine⟨_,by rw[hlv,f3],by rw[f1];exact hrep,f2,fun w'=>by rw[e1'];show Sem.run P (pure n) w'=_;rw[f3];rfl,fun k=>?_⟩;have hld:=run_loadCells_list (P:=P) { w with drawn:=k } ⟨g.β so,off,none⟩ _ (fun j v hj=>by rw[cG];exact hcell j v hj k);rw[hlv] at hld;rw[f3];simp [e1',Builtin.firstCells,hld]
  ·cases h
 ·exact o5 hs hy h
theorem jW {t u ty e e':TypeId} {i:TypeInfo} {yv:Value} {b n c m:Nat} {cur:Array Value} {fz:Nat × Nat} {news:List Value} {ud:TypeDesc} (ht:P.underlying t=some (.slice e)) (hu:P.underlying u=some ud) (hud:∀ k,ud≠.int k)
  (hi:P.info? e=some i) (hlen:∀ w',(Builtin.lenOf yv).run P w'=.ok m w')
  (hnew:∀ k,(Builtin.firstCells i.size m yv).run P { w with drawn:=k }=.ok news.toArray { w with drawn:=k })
  (hg:w.heap[b]?=some (.cells cur e' fz)) (hz:z9 fz cur.size) (hroom:n+m<=c) (hfit:n*i.size+news.length<=cur.size) (h1:∀ v∈news,v.oneCell'=true) :
  (Builtin.append_ #[t,u] ty #[.slice (some ⟨b,0,none⟩) n c,yv]).run P w =
   .ok (.slice (some ⟨b,0,none⟩) (n+m) c) (w.setRow b (cur.toList.take (n*i.size)++news++cur.toList.drop (n*i.size+news.length)).toArray):=by
 have hw:=hnew w.drawn;have hst:=cM P b (n*i.size) e' fz news 0 cur w hg hz (by simpa using hfit) h1;simp only[Nat.add_zero] at hst;simp [Builtin.append_,run_underlying ht,run_underlying hu,sizeOf,typeInfo,hi,hlen,hroom,hw,cG,hst]
theorem BP (hs:Sim E g σ a w) (hd:∀ d,o.dst=some d->d < E.nt) {t u e:TypeId} {x y:Operand} {rx ry:AR} (hop:o.op=.call { callee:=.builtin .append,args:=#[x,y],argTypes:=#[t,u] })
  (hx:okR x rx=true) (hy:okR y ry=true)
  (ht:P.underlying t=some (.slice e)) {str:Bool} {ud:TypeDesc} (hu:P.underlying u=some ud) (hud:∀ k,ud≠.int k) {i:TypeInfo} {zv:Value} {z bytes:Nat} (hi:P.info? e=some i) (hiz:i.size=z) (hib:i.bytes=bytes) (hz:i.zero=some zv) (hzs:zv.cells.size=z)
  {z':Nat} {l2:LL} (he:ev σ.fr rx=.sl .full z' []) (hr:eC str z σ.sh (ev σ.fr ry)=some l2) (hne:l2≠[]) (hz0:0 < z)
  (hby:l2.length*bytes<=140737488355328) (hle:l2.length<=4611686018427387904) :
  o.wp P a w (aR E (put { σ with sh:=σ.sh++[l2.flatten] } o.dst (.ss σ.sh.length 0 l2.length z))) Q:=by
 subst hiz;subst hib;obtain⟨news,n1,n2,n3,n4,n5⟩:=fM (P:=P) hs hy hr;obtain⟨A,c,e1,e2,e3,_⟩:=hs.rdSl hx he;have hc0:c=0:=by simpa using e3 rfl
 subst hc0;have hpos:0 < l2.length:=by
  rcases Nat.eq_zero_or_pos l2.length with h | h
  ·exact absurd (eq_nil_of_length_eq_zero h) hne
  ·exact h
 have hold:∀ k,(Builtin.firstCells i.size 0 (.slice A 0 0)).run P { w with drawn:=k }=.ok ([]:List Value).toArray { w with drawn:=k }:=by
  intro k;cases A<;>simp [Builtin.firstCells,loadCells,loadCellsFrom]
 have hrun:=hJ (P:=P) (w:=w) (ty:=o.type) ht hu hud hi hz n4 hold n5 (by omega) (by omega) (by rw[Nat.zero_add];exact hby);simp only[Nat.zero_add] at hrun;have h1:=hs.drawn (w.drawn+1);have hge:=grownCap_ge w l2.length 0 e
 obtain⟨g',k1,k2,k3,k4⟩:=h1.newShr (cells:=l2.flatten) (cs:=([]:List Value).toArray++news.toArray++Builtin.zeroCells zv.cells (grownCap w l2.length 0 e - l2.length)) (e:=e) (fun j y hj=>by
  obtain⟨v,h3,h4⟩:=n2.get hj;refine⟨v,?_,(cQ (c:=cx E g σ { w with drawn:=w.drawn+1 }) (aD.mono (S:=SS E g w) (S':=SS E g w) (w:=w) (w':={ w with drawn:=w.drawn+1 }) (fun b n h=>⟨h,rfl⟩) _ _ h4)).2⟩;have hjl:=(List.getElem?_eq_some_iff.1 h3).1;rw[Array.getElem?_append_left (by simpa using hjl)]
  simpa using h3)
 refine bP k1 (val:=.slice (some ⟨w.heap.size,0,none⟩) l2.length (grownCap w l2.length 0 e)) ?_ fun d hdd=>⟨hd d hdd,?_⟩
 ·have e1':a.eval x=.slice A 0 0:=e1
  simp only[execOp,hop,resolve,invoke,builtin,map_toArray,map_cons,map_nil,e1'];simp [hrun]
 ·refine⟨by simp [cx],grownCap w l2.length 0 e,?_,hge,?_⟩
  ·show _=Value.slice (some ⟨g'.β σ.sh.length,0,none⟩) _ _
   have:g'.β σ.sh.length=w.heap.size:=k3
   rw[this]
  ·have hb:g'.bs σ.sh.length=2*(([]:List Value).toArray++news.toArray++Builtin.zeroCells zv.cells (grownCap w l2.length 0 e - l2.length)).size+1:=k4
   refine oU ?_ (by show g'.bs σ.sh.length % 2=1;rw[hb];omega);show 0+_=g'.bs σ.sh.length / 2;rw[hb,show ∀ X:Nat,(2*X+1) / 2=X from fun X=>by omega];simp only[Array.size_append,size_toArray,size_zeroCells,hzs,n1,length_nil];rw[Nat.zero_add,Nat.zero_add,<- Nat.add_mul]
   congr 1
   omega
theorem BO (hs:Sim E g σ a w) (hd:∀ d,o.dst=some d->d < E.nt) {t u e:TypeId} {x y:Operand} {rx ry:AR} (hop:o.op=.call { callee:=.builtin .append,args:=#[x,y],argTypes:=#[t,u] })
  (hx:okR x rx=true) (hy:okR y ry=true)
  (ht:P.underlying t=some (.slice e)) {str:Bool} {ud:TypeDesc} (hu:P.underlying u=some ud) (hud:∀ k,ud≠.int k) {i:TypeInfo} {zv:Value} {z bytes:Nat} (hi:P.info? e=some i) (hiz:i.size=z) (hib:i.bytes=bytes) (hz:i.zero=some zv) (hzs:zv.cells.size=z)
  {so n:Nat} {cells:List AV} {l2:LL} (he:ev σ.fr rx=.ss so 0 n z) (hr:eC str z σ.sh (ev σ.fr ry)=some l2) (hc:σ.sh[so]?=some cells) (hbk:bV cells=true) (hn:n*z=cells.length) (hno:cells.all fC=true) (hz0:0 < z)
  (hby:(n+l2.length)*bytes<=140737488355328) (hle:n+l2.length<=4611686018427387904) :
  o.wp P a w (aR E (put { σ with sh:=σ.sh.set so bJ++[cells++l2.flatten] } o.dst (.ss σ.sh.length 0 (n+l2.length) z))) Q:=by
 subst hiz;subst hib;obtain⟨news,n1,n2,n3,n4,n5⟩:=fM (P:=P) hs hy hr;obtain⟨e0,cp,e1,e2,e3⟩:=hs.rd hx he;have e1':a.eval x=.slice (some ⟨g.β so,0,none⟩) n cp:=e1;have e3':0+cp*i.size<=g.bs so / 2:=e3.1;have hsl:so < σ.sh.length:=(List.getElem?_eq_some_iff.1 hc).1;obtain⟨k1,k2,_⟩:=hs.shr so cells hc (cF hbk);obtain⟨arr,ty,fz,h6,hfz,h7,h8⟩:=k2 hbk;have hrunof:∀ v w',(Builtin.append_ #[t,u] o.type #[.slice (some ⟨g.β so,0,none⟩) n cp,a.eval y]).run P w=.ok v w'->(execOp a.eval o).run P w=.ok (.value v) w':=by
  intro v w' h;simp [execOp,hop,resolve,invoke,builtin,e1',h]
 have hfl:l2.flatten.length=l2.length*i.size:=by rw[<- n2.length];exact n1
 have hallf:(cells++l2.flatten).all fC=true:=by
  rw[all_append,hno,Bool.true_and,all_eq_true];intro y hy';obtain⟨j,hj⟩:=mem_iff_getElem?.1 hy';obtain⟨v,_,h4⟩:=n2.get hj
  cases y with
  | sl m z l =>
   cases m with
   | own=>simp only[aD] at h4;obtain⟨_,_,_,_,_,h5,_⟩:=h4;exact absurd rfl h5
   | no=>rfl
   | full=>rfl
  | _=>rfl
 have hblk2:bV (cells++l2.flatten)=true:=by
  unfold bV;split
  ·rename_i m hm
   exfalso
   cases cells with
   | nil =>
    rw[nil_append] at hm;have h0:l2.flatten[0]?=some (.mapv m):=by rw[hm];rfl
    obtain⟨v,_,h4⟩:=n2.get h0;simp [aD] at h4
   | cons c cs =>
    simp only[cons_append,List.cons.injEq,append_eq_nil_iff] at hm;obtain⟨rfl,rfl,_⟩:=hm;simp [bV] at hbk
  ·rename_i hm
   exfalso
   cases cells with
   | nil =>
    rw[nil_append] at hm;have h0:l2.flatten[0]?=some .undef:=by rw[hm];rfl
    obtain⟨v,_,h4⟩:=n2.get h0;simp [aD] at h4
   | cons c cs =>
    simp only[cons_append,List.cons.injEq,append_eq_nil_iff] at hm;obtain⟨rfl,rfl,_⟩:=hm;simp [bV] at hbk
  ·rfl
 have h7':=h7.1;have harr:cp*i.size<=arr.size:=by omega
 by_cases hg:cp < n+l2.length
 ·
  have hcl:cells.length<=arr.size:=by rw[<- hn];exact Nat.le_trans (Nat.mul_le_mul_right _ e2) harr
  have hold:∀ k,(Builtin.firstCells i.size n (.slice (some ⟨g.β so,0,none⟩) n cp)).run P { w with drawn:=k }=.ok (arr.toList.take (n*i.size)).toArray { w with drawn:=k }:=by
   intro k;have hlt:(arr.toList.take (n*i.size)).length=n*i.size:=by simp;omega
   have hld:=run_loadCells_list (P:=P) { w with drawn:=k } ⟨g.β so,0,none⟩ (arr.toList.take (n*i.size)) (fun j v hj=>by
    rw[cG];rw[getElem?_take] at hj
    split at hj
    ·simp [World.cell?,h6];simpa using hj
    ·cases hj)
   rw[hlt] at hld;simp only[Builtin.firstCells,hld]
  have hrun:=hJ (P:=P) (w:=w) (ty:=o.type) ht hu hud hi hz n4 hold n5 hg (by omega) hby;have h1:=hs.drawn (w.drawn+1);have hge:=grownCap_ge w (n+l2.length) cp e
  obtain⟨g',q1,q2,q3,q4⟩:=h1.newShr (cells:=cells++l2.flatten) (cs:=(arr.toList.take (n*i.size)).toArray++news.toArray++Builtin.zeroCells zv.cells (grownCap w (n+l2.length) cp e - (n+l2.length))) (e:=e) (fun j y hj=>by
   have hle1:Cx.le (cx E g σ w) (cx E g σ { w with drawn:=w.drawn+1 }):=⟨fun b n h=>⟨h,rfl⟩,Nat.le_refl _,fun _ _=>rfl,fun _ _=>rfl,fun s hs=>⟨hs,rfl⟩⟩
   rw[getElem?_append] at hj
   split at hj
   ·rename_i hjl
    obtain⟨v,h3,h4⟩:=h8 j y hj;refine⟨v,?_,aX.mono hle1 _ _ (fun z l e=>?_) h4⟩
    ·rw[Array.getElem?_append_left (by simp;omega),Array.getElem?_append_left (by simp;omega)]
     rw[getElem?_toArray,getElem?_take_of_lt (by omega)];simpa using h3
    ·subst e
     rw[all_eq_true] at hno
     have:=hno _ (mem_iff_getElem?.2 ⟨j,hj⟩)
     simp [fC] at this
   ·rename_i hjl
    obtain⟨v,h3,h4⟩:=n2.get hj;refine⟨v,?_,(cQ (c:=cx E g σ { w with drawn:=w.drawn+1 }) (aD.mono (S:=SS E g w) (S':=SS E g w) (w:=w) (w':={ w with drawn:=w.drawn+1 }) (fun b n h=>⟨h,rfl⟩) _ _ h4)).2⟩;have hjl2:=(List.getElem?_eq_some_iff.1 h3).1;have hs1:(arr.toList.take (n*i.size)).toArray.size=cells.length:=by simp;omega
    rw[Array.getElem?_append_left (by simp;omega),Array.getElem?_append_right (by omega),hs1]
    simpa using h3)
  have q5:=q1.killObj (i:=so) (cells:=cells) (by rw[getElem?_append_left hsl];exact hc) hbk;have hset:(σ.sh++[cells++l2.flatten]).set so bJ=σ.sh.set so bJ++[cells++l2.flatten]:=by rw[set_append_left _ _ hsl]
  simp only[hset] at q5;refine bP q5 (hrunof _ _ hrun) fun d hdd=>⟨hd d hdd,?_⟩
  refine⟨by simp [cx],grownCap w (n+l2.length) cp e,?_,hge,?_⟩
  ·show _=Value.slice (some ⟨g'.β σ.sh.length,0,none⟩) _ _
   have:g'.β σ.sh.length=w.heap.size:=q3
   rw[this]
  ·have hb:g'.bs σ.sh.length=2*_+1:=q4
   refine oU ?_ (by show g'.bs σ.sh.length % 2=1;rw[hb];omega);show 0+_=g'.bs σ.sh.length / 2;rw[hb,show ∀ X:Nat,(2*X+1) / 2=X from fun X=>by omega];simp only[Array.size_append,size_toArray,size_zeroCells,hzs,n1,length_take,Array.length_toList];rw[Nat.min_eq_left (by omega),<- Nat.add_mul,<- Nat.add_mul];simp only[Nat.zero_add]
   congr 1
   omega
 ·
  have hroom:n+l2.length<=cp:=by omega
  have hfit:n*i.size+news.length<=arr.size:=by rw[n1,<- Nat.add_mul];exact Nat.le_trans (Nat.mul_le_mul_right _ hroom) harr
  have hrun:=jW (P:=P) (w:=w) (ty:=o.type) (c:=cp) ht hu hud hi n4 n5 h6 hfz hroom hfit (cT (S:=fun _ _=>True) (c:=cx E g σ w) n2)
  have hcell:=hs.setShr (cells':=cells++l2.flatten) (arr':=(arr.toList.take (n*i.size)++news++arr.toList.drop (n*i.size+news.length)).toArray) hc (cF hbk) h6 hfz (by simp;omega) h7 (fun j y hj=>by
   rw[getElem?_toArray,append_assoc];rw[getElem?_append] at hj
   split at hj
   ·rename_i hjl
    obtain⟨v,h3,h4⟩:=h8 j y hj;refine⟨v,?_,h4⟩;rw[getElem?_append_left (by simp;omega),getElem?_take_of_lt (by omega)];simpa using h3
   ·rename_i hjl
    obtain⟨v,h3,h4⟩:=n2.get hj;have hjl2:=(List.getElem?_eq_some_iff.1 h3).1;refine⟨v,?_,aX.mono (Cx.le.refl _) _ _ (fun _ _ _ h=>h.elim) (cQ (c:=cx E g σ w) h4).2⟩;have hs1:(arr.toList.take (n*i.size)).length=cells.length:=by simp;omega
    rw[getElem?_append_right (by omega),hs1,getElem?_append_left hjl2]
    exact h3)
  obtain⟨q5,q6⟩:=hcell.moveObj (i:=so) (cells:=cells++l2.flatten) (getElem?_set_self hsl) hblk2 hallf;have hset:(σ.sh.set so (cells++l2.flatten)).set so bJ++[cells++l2.flatten]=σ.sh.set so bJ++[cells++l2.flatten]:=by rw[set_set]
  have q7:Sim E _ { σ with sh:=(σ.sh.set so (cells++l2.flatten)).set so bJ++[cells++l2.flatten] } a _:=q5;rw[hset] at q7;refine bP q7 (hrunof _ _ hrun) fun d hdd=>⟨hd d hdd,?_⟩
  refine⟨by simp [cx],cp,by simp [cx,upd],hroom,?_⟩;have h9:ssz 0 cp i.size (g.bs so):=e3;simpa [cx,upd] using h9
theorem E0 (hs:Sim E g σ a w) (hd:∀ d,o.dst=some d->d < E.nt) {t:TypeId} (hop:o.op=.makeMap t none) :
  o.wp P a w (aR E (put { σ with sh:=σ.sh++[[.mapv []]] } o.dst (.mp σ.sh.length))) Q:=by
 obtain⟨h1,hle⟩:=hs.alloc (.map #[] 0) (.shr σ.sh.length);have hnew:(w.alloc (.map #[] 0)).heap[w.heap.size]?=some (.map #[] 0):=heap_alloc_new w _;obtain⟨k1,k2⟩:=h1.addShr (b:=w.heap.size) (n:=0) (cells:=[.mapv []]) (by simp [upd]) hs.hsize (by simp) (fun _=>⟨fun h=>by simp [bV] at h,⟨#[],0,hnew,trivial⟩⟩);refine bP k1 (val:=.map (some w.heap.size)) ?_ fun d hdd=>⟨hd d hdd,by simp [cx],by simp [cx,upd]⟩
 have:(Instr.makeMap t none).run P w=.ok (.map (some w.heap.size)) (w.alloc (.map #[] 0)):=rfl
 simp [execOp,hop,this]
theorem nF {t:TypeId} {kk:List Nat} (h:pM P t kk=true):(∃ k,P.underlying t=some (.int k)/\kk=[0])\/(P.underlying t=some .string/\kk=[2]):=by
 unfold pM at h
 split at h
 ·rename_i k hk;exact .inl ⟨k,hk,rfl⟩
 ·rename_i hk;exact .inr ⟨hk,rfl⟩
 ·cases h
theorem uN {desc:TypeDesc} {kk:List Nat} (hk:(∃ k,desc=.int k/\kk=[0])\/(desc=.string/\kk=[2])) {x y:AV} {r:Bool} (h:iI kk x y=some r) :
  (∃ k k0 a b,desc=.int k0/\x=.int k a/\y=.int k b/\r=(a == b))\/(∃ a b,desc=.string/\x=.str a/\y=.str b/\r=(a == b)):=by
 rcases hk with ⟨k,rfl,rfl⟩ | ⟨rfl,rfl⟩
 ·unfold iI at h
  cases x<;>cases y<;>simp only[eqL,reduceCtorEq,Option.map_some] at h
  rename_i k1 n1 k2 n2
  split at h
  ·rename_i hkk
   subst hkk;simp only[Bool.and_true,Option.some.injEq] at h;exact .inl ⟨_,_,_,_,rfl,rfl,rfl,h.symm⟩
  ·cases h
 ·unfold iI at h
  cases x<;>cases y<;>simp only[eqL,reduceCtorEq,Option.map_some] at h
  simp only[Bool.and_true,Option.some.injEq] at h;exact .inr ⟨_,_,rfl,rfl,rfl,h.symm⟩
theorem JH {x y:ByteArray}:(x == y)=(x.data.toList == y.data.toList):=by
 have h1:(x == y)=(x.data == y.data):=by cases x;cases y;rfl
 rw[h1,Array.beq_toList]
theorem eT {c c':Cx} {desc:TypeDesc} {kk:List Nat} (hk:(∃ k,desc=.int k/\kk=[0])\/(desc=.string/\kk=[2])) {x y:AV} {u v:Value} {r:Bool} (h:iI kk x y=some r) (hx:aJ c x u) (hy:aJ c' y v) :
  Instr.sameNow desc u v=some r/\(r=true->Instr.sameBits 10000 v u=true):=by
 rcases uN hk h with ⟨k,k0,a,b,rfl,rfl,rfl,rfl⟩ | ⟨a,b,rfl,rfl,rfl,rfl⟩
 ·have e1:u=.int k a:=hx
  have e2:v=.int k b:=hy;subst e1;subst e2;refine⟨by simp [Instr.sameNow],fun hr=>?_⟩
  have:a=b:=by simpa using hr
  subst this;simp [Instr.sameBits]
 ·obtain⟨s1,rfl,h1⟩:∃ s,u=.string s/\s.data.toList=a:=hx
  obtain⟨s2,rfl,h2⟩:∃ s,v=.string s/\s.data.toList=b:=hy;refine⟨by simp [Instr.sameNow,JH,h1,h2],fun hr=>?_⟩;simp only[Instr.sameBits,JH,h1,h2]
  have:a=b:=by simpa using hr
  simp [this]
theorem pV {c c':Cx} {desc:TypeDesc} {kk:List Nat} (hk:(∃ k,desc=.int k/\kk=[0])\/(desc=.string/\kk=[2])) {x:AV} {u:Value} (hx:aJ c x u):∀ {l:LL} {es:List MapEntry} {r:Option AV} (i:Nat),cP c' l es->lkA kk x l=some r ->
  (∃ v,r=some v/\∃ j val,Instr.findNow desc u es i=some (some (j,val))/\aJ c' v val/\aP v=true)\/(r=none/\Instr.findNow desc u es i=some none)
 | [],[],r,i,_,h=>by
  simp only[lkA,Option.some.injEq] at h;subst h;exact .inr ⟨rfl,rfl⟩
 | [k,v] :: l,e :: es,r,i,hm,h=>by
  simp only[cP] at hm;obtain⟨m1,m2,m3,m4,m5⟩:=hm;simp only[lkA] at h
  split at h
  ·rename_i hq
   cases h;obtain⟨h1,_⟩:=eT hk hq hx m3;exact .inl ⟨v,rfl,i,e.val,by simp [Instr.findNow,h1],m4,m2⟩
  ·rename_i hq
   obtain⟨h1,_⟩:=eT hk hq hx m3
   have:=pV hk hx (i+1) m5 h
   simpa [Instr.findNow,h1] using this
  ·cases h
 | [],_ :: _,_,_,hm,_=>by simp [cP] at hm
 | [] :: _,_,_,_,hm,_=>by simp [cP] at hm
 | [_] :: _,_,_,_,hm,_=>by simp [cP] at hm
 | (_ :: _ :: _ :: _) :: _,_,_,_,hm,_=>by simp [cP] at hm
 | [_,_] :: _,[],_,_,hm,_=>by simp [cP] at hm
theorem GT {t key elem:TypeId} {kk:List Nat} (hk:pM P key kk=true) {x:AV} {u:Value} {c c':Cx} (hx:aJ c x u) {l:LL} {es:Array MapEntry} {r:Option AV} (hm:cP c' l es.toList) (h:lkA kk x l=some r) (hl:l≠[]\/aY x=true) (w:World) :
  (∀ b,(Instr.checkKey b 10000 key u).run P w=.ok () w) /\
  ((∃ v,r=some v/\∃ j val,(Instr.findKey key u es.toList).run P w=.ok (some (j,val)) w/\aJ c' v val/\aP v=true)\/(r=none/\(Instr.findKey key u es.toList).run P w=.ok none w)):=by
 have hkc:=nF hk;obtain⟨desc,hu,hd⟩:∃ desc,P.underlying key=some desc/\((∃ k,desc=.int k/\kk=[0])\/(desc=.string/\kk=[2])):=by
  rcases hkc with ⟨k,h1,h2⟩ | ⟨h1,h2⟩
  ·exact⟨_,h1,.inl ⟨k,rfl,h2⟩⟩
  ·exact⟨_,h1,.inr ⟨rfl,h2⟩⟩
 refine⟨fun b=>?_,?_⟩
 ·rcases hd with ⟨k,rfl,_⟩ | ⟨rfl,_⟩
  ·show Sem.run P (Instr.checkKey b (9999+1) key u) w=_
   generalize 9999=n;simp [Instr.checkKey,run_underlying hu]
  ·show Sem.run P (Instr.checkKey b (9999+1) key u) w=_
   generalize 9999=n;simp [Instr.checkKey,run_underlying hu]
 ·rcases pV hd hx 0 hm h with ⟨v,rfl,j,val,h1,h2,h3⟩ | ⟨rfl,h1⟩
  ·exact .inl ⟨v,rfl,j,val,by simp [Instr.findKey,run_underlying hu,h1],h2,h3⟩
  ·exact .inr ⟨rfl,by simp [Instr.findKey,run_underlying hu,h1]⟩
theorem BW {c:Cx} {v:AV} {val:Value} (h:aP v=true) (r:aJ c v val):aK c aN v val/\aH v=v:=by
 cases v with
 | sl m z l=>simp [aP,aY] at h
 | any=>simp [aP,aY] at h
 | undef=>simp [aP,aY] at h
 | loc=>simp [aP,aY] at h
 | ip=>simp [aP,aY] at h
 | fn=>simp [aP,aY] at h
 | tup=>simp [aP,aY] at h
 | mapv=>simp [aP,aY] at h
 | aggR=>simp [aP,aY] at h
 | _=>exact⟨r,rfl⟩
theorem zJ {t:TypeId} {agg:Bool} {zero:List AV} (h:wQ P t agg zero=true) (w:World) :
  ∃ zv,(zeroValue t).run P w=.ok zv w/\((agg=true/\∃ cs,zv=.agg cs/\aI (aD (SS E g w) w) zero cs.toList)\/(agg=false/\∃ z,zero=[z]/\aD (SS E g w) w z zv/\aJ (cx E g σ w) z zv)):=by
 unfold wQ at h;cases hi:P.info? t with
 | none=>rw[hi] at h;simp at h
 | some i =>
  rw[hi] at h;simp only[Option.bind_some] at h
  split at h
  ·rename_i cs hz
   rw[Bool.and_eq_true] at h;exact⟨_,by simp [zeroValue,typeInfo,hi,hz],.inl ⟨h.1,cs,rfl,f9 h.2⟩⟩
  ·rename_i v hz hne
   rw[Bool.and_eq_true] at h;obtain⟨h1,h2⟩:=h
   split at h2
   ·rename_i x
    have hF:aD (SS E g w) w x v:=n6 h2;have hE:aJ (cx E g σ w) x v:=by
     cases x<;>first | exact hF | simp [aD] at hF
    exact⟨_,by simp [zeroValue,typeInfo,hi,hne],.inr ⟨by simpa using h1,x,rfl,hF,hE⟩⟩
   ·cases h2
  ·cases h
theorem E5 (hs:Sim E g σ a w) (hd:∀ d,o.dst=some d->d < E.nt) {t key elem:TypeId} {x y:Operand} {ok:Bool} {rx ry:AR} (hop:o.op=.lookup t x y ok) (hx:okR x rx=true) (hy:okR y ry=true)
  (hu:P.underlying t=some (.map key elem)) {kk:List Nat} (hk:pM P key kk=true) {zero:List AV} {agg:Bool} (hz:wQ P elem agg zero=true)
  {so:Nat} {l:LL} (h1:ev σ.fr rx=.mp so) (hl:σ.sh[so]?=some [.mapv l]) {r:Option AV} (h:lkA kk (ev σ.fr ry) l=some r) {v:AV}
  (hv:lkR ok agg zero r=some v)
  (hky:aY (ev σ.fr ry)=true) :
  o.wp P a w (aR E (put σ o.dst v)) Q:=by
 obtain⟨e0,e1⟩:=hs.rd hx h1;obtain⟨zv,hzrun,hzc⟩:=zJ (E:=E) (g:=g) (σ:=σ) hz w;obtain⟨_,_,hob⟩:=hs.shr so _ hl (by simp [bJ]);obtain⟨es,clock,m1,m2⟩:=hob;have e1':a.eval x=.map (some (g.β so)):=e1;have hyr:aJ (cx E g σ w) (ev σ.fr ry) (a.eval y):=by
  have:=hs.ev_ (ow:=aN) hy
  generalize ev σ.fr ry=q at this hky
  cases q<;>simp [aY] at hky<;>exact this
 obtain⟨c1,c2⟩:=GT (t:=t) (elem:=elem) hk hyr m2 h (.inr hky) w;have hget:(getObj (g.β so)).run P w=.ok (.map es clock) w:=by simp [getObj,Sem.run,m1]
 rcases c2 with ⟨v',rfl,j,val,c3,c4,c5⟩ | ⟨rfl,c3⟩
 ·simp only[lkR,Option.some.injEq] at hv
  obtain⟨s1,s2⟩:=BW c5 c4;cases ok
  ·simp only[Bool.false_eq_true,if_false] at hv
   subst hv;refine aG hs hd (val:=val) ?_ s2 s1;simp [execOp,hop,e1',Instr.lookup,run_underlying hu,hget,c1,c3]
  ·simp only[if_true] at hv
   subst hv;refine aG hs hd (val:=.tuple #[val,.bool true]) ?_ rfl ⟨_,rfl,c4,rfl,trivial⟩;simp [execOp,hop,e1',Instr.lookup,run_underlying hu,hget,c1,c3]
 ·have hzr:∃ zz:AV,v=(if ok then .tup [zz,.bool false] else zz)/\aJ (cx E g σ w) zz zv/\aK (cx E g σ w) aN zz zv/\aH zz=zz:=by
   rcases hzc with ⟨rfl,cs,rfl,hL⟩ | ⟨rfl,z,rfl,hL,hd0⟩
   ·exact⟨.agg zero,by simpa [lkR,eq_comm] using hv,⟨cs,rfl,hL⟩,⟨cs,rfl,hL⟩,rfl⟩
   ·have hT:=aD.top (c:=cx E g σ w) (ow:=aN) hL
    refine⟨z,by simpa [lkR,eq_comm] using hv,hd0,hT.1,hT.2.1⟩
  obtain⟨zz,hv',z1,z2,z3⟩:=hzr;cases ok
  ·simp only[Bool.false_eq_true,if_false] at hv'
   subst hv';refine aG hs hd (val:=zv) ?_ z3 z2;simp [execOp,hop,e1',Instr.lookup,run_underlying hu,hget,c1,c3,hzrun]
  ·simp only[if_true] at hv'
   subst hv';refine aG hs hd (val:=.tuple #[zv,.bool false]) ?_ rfl ⟨_,rfl,z1,rfl,trivial⟩;simp [execOp,hop,e1',Instr.lookup,run_underlying hu,hget,c1,c3,hzrun]
theorem rE {c c':Cx} {desc:TypeDesc} {kk:List Nat} (hk:(∃ k,desc=.int k/\kk=[0])\/(desc=.string/\kk=[2])) {x:AV} {u:Value} (hx:aJ c x u) (hx':aJ c' x u) {y:AV} {val:Value} (hy:aJ c' y val)
  (sx:aP x=true) (sy:aP y=true) (clock:Nat) :
  ∀ {l l':LL} {es:List MapEntry} (i:Nat),cP c' l es->muA kk x y l=some l' ->
  (∃ j old,Instr.findNow desc u es i=some (some (i+j,old))/\(∃ e,es[j]?=some e/\Instr.sameBits 10000 e.key u=true)/\cP c' l' (es.modify j fun e=>{ e with key:=u,val:=val })) \/
  (Instr.findNow desc u es i=some none/\cP c' l' (es++[{ key:=u,val:=val,born:=clock }]))
 | [],l',[],i,_,h=>by
  simp only[muA,Option.some.injEq] at h;subst h;exact .inr ⟨rfl,sx,sy,hx',hy,trivial⟩
 | [k,v] :: l,l',e :: es,i,hm,h=>by
  simp only[cP] at hm;obtain⟨m1,m2,m3,m4,m5⟩:=hm;simp only[muA] at h
  split at h
  ·rename_i hq
   cases h;obtain⟨h1,h2⟩:=eT hk hq hx m3
   refine .inl ⟨0,e.val,by simp [Instr.findNow,h1],⟨e,rfl,h2 rfl⟩,?_⟩
   simp only[modify_cons,if_true];exact⟨sx,sy,hx',hy,m5⟩
  ·rename_i hq
   obtain⟨l2,h3,rfl⟩:=Option.map_eq_some_iff.1 h;obtain⟨h1,_⟩:=eT hk hq hx m3;rcases rE hk hx hx' hy sx sy clock (i+1) m5 h3 with ⟨j,old,h4,⟨e',h5,h6⟩,h7⟩ | ⟨h4,h5⟩
   ·refine .inl ⟨j+1,old,?_,⟨e',by simpa using h5,h6⟩,?_⟩
    ·simp only[Instr.findNow,h1]
     rw[h4,Nat.add_assoc,Nat.add_comm 1 j]
    ·simp only[modify_succ_cons]
     exact⟨m1,m2,m3,m4,h7⟩
   ·exact .inr ⟨by simp only[Instr.findNow,h1];exact h4,m1,m2,m3,m4,h5⟩
  ·cases h
 | [],_,_ :: _,_,hm,_=>by simp [cP] at hm
 | [] :: _,_,_,_,hm,_=>by simp [cP] at hm
 | [_] :: _,_,_,_,hm,_=>by simp [cP] at hm
 | (_ :: _ :: _ :: _) :: _,_,_,_,hm,_=>by simp [cP] at hm
 | [_,_] :: _,_,[],_,hm,_=>by simp [cP] at hm
theorem QG (hs:Sim E g σ a w) {x:Operand} {r:AR} (hx:okR x r=true) (h:aP (ev σ.fr r)=true):aJ (cx E g σ w) (ev σ.fr r) (a.eval x):=by
 have:=hs.ev_ (ow:=aN) hx
 generalize ev σ.fr r=q at this h
 cases q with
 | sl m z l=>simp [aP,aY] at h
 | any=>simp [aP,aY] at h
 | undef=>simp [aP,aY] at h
 | loc=>simp [aP,aY] at h
 | ip=>simp [aP,aY] at h
 | fn=>simp [aP,aY] at h
 | tup=>simp [aP,aY] at h
 | mapv=>simp [aP,aY] at h
 | aggR=>simp [aP,aY] at h
 | _=>exact this
theorem EY (hs:Sim E g σ a w) {t key elem:TypeId} {m x y:Operand} {rm rx ry:AR} (hop:o.op=.mapUpdate t m x y) (hdst:o.dst=none) (hm:okR m rm=true) (hx:okR x rx=true) (hy:okR y ry=true)
  (hu:P.underlying t=some (.map key elem)) {kk:List Nat} (hk:pM P key kk=true)
  {so:Nat} {l l':LL} (h1:ev σ.fr rm=.mp so) (hl:σ.sh[so]?=some [.mapv l]) (h:muA kk (ev σ.fr rx) (ev σ.fr ry) l=some l')
  (sx:aP (ev σ.fr rx)=true) (sy:aP (ev σ.fr ry)=true) :
  o.wp P a w (aR E { σ with sh:=σ.sh.set so [.mapv l'] }) Q:=by
 obtain⟨e0,e1⟩:=hs.rd hm h1;have e1':a.eval m=.map (some (g.β so)):=e1;obtain⟨_,_,hob⟩:=hs.shr so _ hl (by simp [bJ]);obtain⟨es,clock,m1,m2⟩:=hob;have hget:(getObj (g.β so)).run P w=.ok (.map es clock) w:=by simp [getObj,Sem.run,m1]
 have hX:=QG hs hx sx;have hY:=QG hs hy sy;have hkc:=nF hk;obtain⟨desc,hud,hd⟩:∃ desc,P.underlying key=some desc/\((∃ k,desc=.int k/\kk=[0])\/(desc=.string/\kk=[2])):=by
  rcases hkc with ⟨k,h1,h2⟩ | ⟨h1,h2⟩
  ·exact⟨_,h1,.inl ⟨k,rfl,h2⟩⟩
  ·exact⟨_,h1,.inr ⟨rfl,h2⟩⟩
 have hck:∀ b,(Instr.checkKey b 10000 key (a.eval x)).run P w=.ok () w:=by
  intro b;show Sem.run P (Instr.checkKey b (9999+1) key _) w=_;generalize 9999=n;rcases hd with ⟨k,rfl,_⟩ | ⟨rfl,_⟩<;>simp [Instr.checkKey,run_underlying hud]
 have hlt:=hs.shrlt so e0;have fin:∀ es' clock',cP (cx E g σ w) l' es'.toList->(execOp a.eval o).run P w=.ok .skip { w with heap:=w.heap.setIfInBounds (g.β so) (.map es' clock') }->o.wp P a w (aR E { σ with sh:=σ.sh.set so [.mapv l'] }) Q:=by
  intro es' clock' hM hrun;unfold Oper.wp;rw[hrun];show aR E _ (a.put o.dst undef) _;rw[hdst];refine⟨g,hs.setObj hl (by simp [bJ]) (by simp) (fun b' hne=>by simp [Array.getElem?_setIfInBounds,Ne.symm hne]) rfl rfl rfl (fun hle how _=>⟨fun hb=>by simp [bV] at hb,?_⟩)⟩;exact⟨es',clock',by simp [hlt],hM.mono hle⟩
 rcases rE (c:=cx E g σ w) hd hX hX hY sx sy clock 0 m2 h with ⟨j,old,h4,⟨e',h5,h6⟩,h7⟩ | ⟨h4,h5⟩
 ·have hf:(Instr.findKey key (a.eval x) es.toList).run P w=.ok (some (j,old)) w:=by simp [Instr.findKey,run_underlying hud,h4]
  have h5':es[j]?=some e':=by simpa using h5
  have hks:(Instr.keyThatStays e'.key (a.eval x)).run P w=.ok (a.eval x) w:=by simp [Instr.keyThatStays,h6]
  refine fin (es.modify j fun e=>{ e with key:=a.eval x,val:=a.eval y }) clock (by simpa using h7) ?_;simp [execOp,hop,e1',Instr.mapUpdate,run_underlying hu,hget,hck,hf,h5',hks,setObj,Sem.run,m1]
 ·have hf:(Instr.findKey key (a.eval x) es.toList).run P w=.ok none w:=by simp [Instr.findKey,run_underlying hud,h4]
  refine fin (es.push { key:=a.eval x,val:=a.eval y,born:=clock }) (clock+1) (by simpa using h5) ?_;simp [execOp,hop,e1',Instr.mapUpdate,run_underlying hu,hget,hck,hf,setObj,Sem.run,m1]
end
end Go.Av
namespace Go.Av
variable [Gtab]
open Go.RowKit
section
variable {P:Program} {E:Env} {g g':Gh} {σ σ1:AS} {a:Act} {w w':World} {o:Oper} {Q:Exit->Act->World->Prop}
theorem lK {c:Cx} {ow:Nat->Value->Nat->Nat->Prop} {cells:List AV} {arr:Array Value} (h:∀ (j:Nat) (x:AV),cells[j]?=some x->∃ v,arr[j]?=some v/\aX c (ow j) x v):cells.length<=arr.size:=by
 by_cases h0:cells.length=0
 ·omega
 ·obtain⟨u,h9,_⟩:=h (cells.length - 1) _ (getElem?_eq_getElem (by omega))
  have:=(Array.getElem?_eq_some_iff.1 h9).1
  omega
theorem u5 {lo:Option AV} {lo':Option Value} {n c i j:Nat} {hi:AV} {hv:Value} (hl:l8 lo lo') (hh:l8 (some hi) (some hv)) (h1:cR lo 0=some i) (h2:cR (some hi) n=some j) (hij:i<=j) (hjc:j<=c) (w:World) :
  (Instr.sliceBounds true n c lo' (some hv) none).run P w=.ok (i,j,c) w:=by
 have hlo:∀ code,(match lo' with | some v=>Instr.sliceBound v j code | none=>pure 0).run P w=.ok i w:=by
  intro code;unfold l8 at hl
  split at hl
  ·simp only[cR,Option.some.injEq] at h1;subst h1;rfl
  ·subst hl
   obtain⟨_,rfl⟩:=lN h1;exact bX hij w
  ·exact hl.elim
 have hhi:∀ code,(Instr.sliceBound hv c code).run P w=.ok j w:=by
  intro code
  cases hi<;>simp [l8] at hh
  subst hh;obtain⟨_,rfl⟩:=lN h2;exact bX hjc w
 unfold Instr.sliceBounds
 cases lo'<;>simp at hlo ⊢<;>simp [hlo,hhi]
theorem xB (hs:Sim E g σ a w) (hd:∀ d,o.dst=some d->d < E.nt) {t e:TypeId} {x:Operand} {lo:Option Operand} {hi:Operand} {r rh:AR} (hop:o.op=.slice t x lo (some hi) none) (hx:okR x r=true) (hhi:okR hi rh=true)
  {z:Nat} (ht:P.underlying t=some (.slice e)) (hz:aO P e=some z) {lo':Option AV} (hl:l8 lo' (lo.map a.eval)) {v:AV} (hint:∃ k n,ev σ.fr rh=.int k n) (hv:zR z σ.sh (ev σ.fr r) lo' (ev σ.fr rh)=some v) :
  o.wp P a w (aR E (put σ o.dst v)) Q:=by
 obtain⟨hk,hn,hint⟩:=hint;have hh:l8 (some (ev σ.fr rh)) (some (a.eval hi)):=tA hs hhi hint;unfold zR at hv
 split at hv
 ·rename_i so off n z' he
  split at hv
  ·rename_i i j cells hi1 hj1 hc1
   split at hv
   ·rename_i hc
    obtain⟨hij,hjn,rfl,hz0,hbk⟩:=hc;obtain⟨inf,h1,h2⟩:=cO hz;obtain⟨e0,cp,e1,e2,e3⟩:=hs.rd hx he;obtain⟨_,k2,_⟩:=hs.shr so cells hc1 (cF hbk);obtain⟨arr,ty,fz,h6,hfz,h7,h8⟩:=k2 hbk;have hal:=lK h8;have e3':off+cp*z'=g.bs so / 2:=(e3.2 (by omega)).1;have hz0:0 < z':=by omega
    have h7':=h7.1;have hjc:j<=cp:=by
     have:j*z'<=cp*z':=by omega
     exact Nat.le_of_mul_le_mul_right this hz0
    have hb:=u5 (P:=P) (n:=n) hl hh hi1 hj1 hij hjc w;have hrun:(execOp a.eval o).run P w=.ok (.value (.slice (if cp=i then some ⟨(cx E g σ w).β so,off,none⟩ else some ⟨(cx E g σ w).β so,off+i*z',none⟩) (j - i) (cp - i))) w:=by
     simp [execOp,hop,e1,Instr.sliceAt,Instr.slice,run_underlying ht,hb,sizeOf,typeInfo,h1,h2,cG]
    split at hv
    ·rename_i hcc
     cases hv;refine aG hs hd hrun rfl ?_;refine⟨e0,cp - i,?_,by omega,xA e3 (by omega)⟩;by_cases hci:cp=i
     ·have hi0:i=0:=by omega
      subst hi0;simp [hci]
     ·rw[if_neg hci]
    ·rename_i hcc
     cases hv;refine aG hs hd hrun rfl ?_
     have:j - i=0:=by omega
     show aD _ _ (.sl .no z' []) _;simp only[aD];exact⟨_,_,by rw[this];rfl,by simp,by simp,by simp,.inl trivial⟩
   ·cases hv
  ·cases hv
 ·refine iU hs hd hop hx (.inl ⟨e,ht,rfl,hz⟩) hl ?_ hv
  exact hh
theorem ER (hs:Sim E g σ a w) (hd:∀ d,o.dst=some d->d < E.nt) {t e:TypeId} {x lo hi mx:Operand} {rx ri rj rk:AR} (hop:o.op=.slice t x (some lo) (some hi) (some mx)) (hx:okR x rx=true) (hi':okR lo ri=true) (hj':okR hi rj=true) (hk':okR mx rk=true)
  (ht:P.underlying t=some (.slice e)) {inf:TypeInfo} (hinf:P.info? e=some inf) (hv:J3 (ev σ.fr rx) (ev σ.fr ri) (ev σ.fr rj) (ev σ.fr rk)=true) :
  o.wp P a w (aR E (put σ o.dst .any)) Q:=by
 have key:∀ (A:Option Addr) (n c:Nat) (k1 k2 k3:IntKind) (i j m:Int),a.eval x=.slice A n c->n<=c->ev σ.fr ri=.int k1 i->ev σ.fr rj=.int k2 j->ev σ.fr rk=.int k3 m->0<=i/\i<=j/\j<=m/\m<=n ->
   o.wp P a w (aR E (put σ o.dst .any)) Q:=by
  intro A n c k1 k2 k3 i j m q1 q2 q3 q4 q5 ⟨q6,q7,q8,q9⟩;have r3:=hs.rdNat hi' q3;have r4:=hs.rdNat hj' q4;have r5:=hs.rdNat hk' q5;obtain⟨i',rfl⟩:=Int.eq_ofNat_of_zero_le q6;obtain⟨j',rfl⟩:=Int.eq_ofNat_of_zero_le (show 0<=j by omega);obtain⟨m',rfl⟩:=Int.eq_ofNat_of_zero_le (show 0<=m by omega);have b1:∀ code,(Instr.sliceBound (.int k3 (m':Int)) c code).run P w=.ok m' w:=fun code=>bX (by omega) w
  have b2:∀ code,(Instr.sliceBound (.int k2 (j':Int)) m' code).run P w=.ok j' w:=fun code=>bX (by omega) w
  have b3:∀ code,(Instr.sliceBound (.int k1 (i':Int)) j' code).run P w=.ok i' w:=fun code=>bX (by omega) w
  have hb:(Instr.sliceBounds true n c (some (.int k1 (i':Int))) (some (.int k2 (j':Int))) (some (.int k3 (m':Int)))).run P w=.ok (i',j',m') w:=by
   unfold Instr.sliceBounds;simp [b1,b2,b3]
  refine bP hs (val:=.slice (if m'=i' then A else A.map (·.add (i'*inf.size))) (j' - i') (m' - i')) ?_ fun d hdd=>⟨hd d hdd,trivial⟩
  simp [execOp,hop,q1,r3,r4,r5,Instr.sliceAt,Instr.slice,run_underlying ht,hb,sizeOf,typeInfo,hinf]
 unfold J3 at hv
 split at hv
 ·rename_i e1 e2 e3 e4
  obtain⟨_,cp,q1,q2,_⟩:=hs.rd hx e1;exact key _ _ _ _ _ _ _ _ _ q1 q2 e2 e3 e4 (by simpa using hv)
 ·rename_i e1 e2 e3 e4
  obtain⟨A,c,q1,q2,_,_⟩:=hs.rdSl hx e1;exact key _ _ _ _ _ _ _ _ _ q1 q2 e2 e3 e4 (by simpa using hv)
 ·cases hv
theorem i6 {α:Type} {c:Prop} [Decidable c] {x:Option α} {y:α} (h:(if c then x else none)=some y):c/\x=some y:=by
 split at h
 ·rename_i hc;exact⟨hc,h⟩
 ·cases h
theorem vU (hs:Sim E g σ a w) {so off j z:Nat} {cells:List AV} {l2:LL} (h1:σ.sh[so]?=some cells) (h2:cN off j z cells=some l2) :
  ∃ vs:List Value,vs.length=l2.length*z/\aI (aD (SS E g w) w) l2.flatten vs/\(∀ e∈l2,e.length=z)/\l2.length=j /\
   ∀ n cp,(Builtin.firstCells z j (.slice (some ⟨g.β so,off,none⟩) n cp)).run P w=.ok vs.toArray w:=by
 by_cases hn0:j=0
 ·subst hn0
  have hl:l2=[]:=by
   unfold cN at h2
   split at h2
   ·cases h2;rfl
   ·cases h2
  subst hl;refine⟨[],by simp,by simp [aI],by simp,rfl,fun n cp=>?_⟩;simp [Builtin.firstCells,loadCells,loadCellsFrom]
 ·have hz:0 < z/\off+j*z<=cells.length/\((cells.drop off).take (j*z)).all (fun x=>a8 (aH x))=true:=by
   unfold cN at h2
   split at h2
   ·rename_i h;exact h
   ·cases h2
  have hpos:0 < j*z:=Nat.mul_pos (by omega) hz.1;have hblk:bV cells=true:=by
   have key:∀ y,cells=[y]->a8 (aH y)=true:=by
    rintro y rfl
    have:off=0/\j*z=1:=by have:=hz.2.1;simp at this;omega
    obtain⟨rfl,h1⟩:=this;have h3:=hz.2.2;rw[h1] at h3;simpa using h3
   unfold bV;split
   ·have:=key _ rfl;simp [aH,a8] at this
   ·have:=key _ rfl;simp [aH,a8] at this
   ·rfl
  obtain⟨_,hob,_⟩:=hs.shr so cells h1 (cF hblk);obtain⟨arr,ty,fz,q1,_,q2,q3⟩:=hob hblk;have hal:=lK q3;have hrep:aI (aD (SS E g w) w) (((cells.drop off).take (j*z)).map aH) ((arr.toList.drop off).take (j*z)):=by
   refine fX off (j*z) aH hz.2.1 fun q x hq hx=>?_
   obtain⟨u,h3,h4⟩:=q3 _ x hx;have h5:=hz.2.2;rw[all_eq_true] at h5;refine⟨u,h3,lZ (c:=cx E g σ w) (h5 x (mem_iff_getElem?.2 ⟨q,?_⟩)) h4⟩;rw[getElem?_take_of_lt hq,getElem?_drop];exact hx
  have hlen:(((cells.drop off).take (j*z)).map aH).length=j*z:=by simp;omega
  obtain⟨f1,f2,f3⟩:=eU z j _ hlen;have hl2:l2=cH z j (((cells.drop off).take (j*z)).map aH):=by
   unfold cN at h2;rw[if_pos hz] at h2;cases h2;rfl
  subst hl2;have hlv:((arr.toList.drop off).take (j*z)).length=j*z:=by rw[hrep.length];exact hlen
  refine⟨_,by rw[hlv,f3],by rw[f1];exact hrep,f2,f3,fun n cp=>?_⟩
  have hld:=run_loadCells_list (P:=P) w ⟨g.β so,off,none⟩ ((arr.toList.drop off).take (j*z)) (fun q v hq=>by
   rw[cG];rw[getElem?_take] at hq
   split at hq
   ·rw[getElem?_drop] at hq
    simp [World.cell?,q1];simpa using hq
   ·cases hq)
  rw[hlv] at hld;simp only[Builtin.firstCells,hld]
theorem FF (hs:Sim E g σ a w) (hd:∀ d,o.dst=some d->d < E.nt) {t u e:TypeId} {x y:Operand} {rx ry:AR} (hop:o.op=.call { callee:=.builtin .copy,args:=#[x,y],argTypes:=#[t,u] })
  (hx:okR x rx=true) (hy:okR y ry=true) (ht:P.underlying t=some (.slice e)) {z:Nat} (hz:aO P e=some z)
  {v:AV} {sh':LL} (hv:LW z σ.sh (ev σ.fr ry) (ev σ.fr rx)=some (v,sh')) :
  o.wp P a w (aR E (put { σ with sh:=sh' } o.dst v)) Q:=by
 unfold LW at hv;cases he:ev σ.fr rx<;>rw[he] at hv<;>dsimp only at hv<;>first | (cases hv;done) | skip
 rename_i so off n z';obtain⟨l2,hr,hv1⟩:=Option.bind_eq_some_iff.1 hv;obtain⟨hc,hv2⟩:=i6 hv1;obtain⟨rfl,hz0,hle⟩:=hc;obtain⟨cells,hcl,hv3⟩:=Option.bind_eq_some_iff.1 hv2;obtain⟨hbk,hv4⟩:=i6 hv3;obtain⟨c',hp,hv5⟩:=Option.map_eq_some_iff.1 hv4;simp only[Prod.mk.injEq] at hv5;obtain⟨rfl,rfl⟩:=hv5;obtain⟨inf,hi,hin⟩:=cO hz;have hsrc:∃ (news:List Value) (m:Nat),news.length=l2.length*z'/\aI (aD (SS E g w) w) l2.flatten news/\(∀ w',(Builtin.lenOf (a.eval y)).run P w'=.ok m w')/\Nat.min m n=l2.length/\(Builtin.firstCells z' l2.length (a.eval y)).run P w=.ok news.toArray w:=by
  cases hey:ev σ.fr ry with
  | ss s2 off2 k2 z2 =>
   rw[hey] at hr;simp only[vK,eC] at hr;obtain⟨hq,hr2⟩:=i6 hr;obtain⟨_,rfl⟩:=hq;obtain⟨cells2,p1,p2⟩:=Option.bind_eq_some_iff.1 hr2;obtain⟨vs,q1,q2,q3,q4,q5⟩:=vU (P:=P) hs p1 p2;obtain⟨_,cp2,e1,_⟩:=hs.rd hy hey;have e1':a.eval y=.slice (some ⟨g.β s2,off2,none⟩) k2 cp2:=e1;refine⟨vs,k2,q1,q2,fun w'=>by rw[e1'];rfl,by rw[q4],?_⟩;rw[e1',q4];exact q5 k2 cp2
  | _ =>
   rw[hey] at hr;simp only[vK] at hr;rw[<- hey] at hr;obtain⟨news,n1,n2,n3,n4,n5⟩:=fM (P:=P) hs hy hr;exact⟨news,l2.length,n1,n2,n4,Nat.min_eq_left hle,n5 w.drawn⟩
 obtain⟨news,m,n1,n2,n4,hmin,n5⟩:=hsrc;obtain⟨e0,cp,e1,e2,e3,_⟩:=hs.rd hx he;have e1':a.eval x=.slice (some ⟨g.β so,off,none⟩) n cp:=e1;obtain⟨k1,k2,_⟩:=hs.shr so cells hcl (cF hbk);obtain⟨arr,ty,fz,h6,hfz,h7,h8⟩:=k2 hbk;have hal:=lK h8;obtain⟨h5,rfl⟩:=f8 hp;have hlen:=n2.length;have hst:=cM P (g.β so) off ty fz news 0 arr w h6 hfz (by omega) (cT (S:=fun _ _=>True) (c:=cx E g σ w) n2);simp only[Nat.add_zero] at hst;have hrun:(Builtin.copy_ #[t,u] o.type #[.slice (some ⟨g.β so,off,none⟩) n cp,a.eval y]).run P w=.ok (goInt l2.length) (w.setRow (g.β so) (arr.toList.take off++news++arr.toList.drop (off+news.length)).toArray):=by
  have hw0':(Builtin.firstCells inf.size l2.length (a.eval y)).run P w=.ok news.toArray w:=by rw[hin];exact n5
  simp only[Builtin.copy_];simp [run_underlying ht,n4,hmin,sizeOf,typeInfo,hi,hw0',hst]
 have hnew:=hs.setShr (cells':=cells.take off++l2.flatten++cells.drop (off+l2.flatten.length)) (arr':=(arr.toList.take off++news++arr.toList.drop (off+news.length)).toArray) hcl (cF hbk) h6 hfz
  (by simp;omega) h7 (by
   refine iT (by rw[hlen]) h5 (by simpa using h8) (fun j y hj=>?_);obtain⟨v,h3,h4⟩:=n2.get hj
   exact⟨v,h3,(cQ (c:=cx E g σ w) h4).2⟩)
 refine bP hnew (val:=.int .i64 (l2.length:Int)) ?_ fun d hdd=>⟨hd d hdd,rfl⟩
 simp [execOp,hop,resolve,invoke,builtin,e1',hrun,goInt]
theorem BQ (hs:Sim E g σ a w) (hd:∀ d,o.dst=some d->d < E.nt) {t u e e2:TypeId} {x y:Operand} {rx ry:AR} (hop:o.op=.call { callee:=.builtin .append,args:=#[x,y],argTypes:=#[t,u] })
  (hx:okR x rx=true) (hy:okR y ry=true) (ht:P.underlying t=some (.slice e)) (hu:P.underlying u=some (.slice e2)) {z:Nat} (hz:aO P e=some z)
  {v:AV} {sh':LL} (hv:DY z σ.sh (eC false z σ.sh (ev σ.fr ry)) (ev σ.fr rx)=some (v,sh')) :
  o.wp P a w (aR E (put { σ with sh:=sh' } o.dst v)) Q:=by
 unfold DY at hv;obtain⟨l2,hr,hv⟩:=Option.bind_eq_some_iff.1 hv;cases he:ev σ.fr rx<;>rw[he] at hv<;>dsimp only at hv<;>first | (cases hv;done) | skip
 rename_i so off n z';obtain⟨hc,hv2⟩:=i6 hv;obtain⟨rfl,rfl,hz0⟩:=hc;obtain⟨cells,hcl,hv3⟩:=Option.bind_eq_some_iff.1 hv2;obtain⟨hbk,hv4⟩:=i6 hv3;obtain⟨hbk,hfitc⟩:=hbk;obtain⟨c',hp,hv5⟩:=Option.map_eq_some_iff.1 hv4;simp only[Prod.mk.injEq] at hv5;obtain⟨rfl,rfl⟩:=hv5;obtain⟨inf,hi,hin⟩:=cO hz;obtain⟨news,n1,n2,n3,n4,n5⟩:=fM (P:=P) hs hy hr;obtain⟨e0,cp,e1,e2',e3⟩:=hs.rd hx he;have e1':a.eval x=.slice (some ⟨g.β so,0,none⟩) n cp:=e1;have e3':0+cp*z'=g.bs so / 2:=(e3.2 (by omega)).1;have hz0:0 < z':=by omega
 obtain⟨k1,k2,_⟩:=hs.shr so cells hcl (cF hbk);obtain⟨arr,ty,fz,h6,hfz,h7,h8⟩:=k2 hbk;have hal:=lK h8;have h7':=h7.1;obtain⟨h5,rfl⟩:=f8 hp;have hroom:n+l2.length<=cp:=by
  have:(n+l2.length)*z'<=cp*z':=by omega
  exact Nat.le_of_mul_le_mul_right this hz0
 have hlen:=n2.length;have hfit:n*inf.size+news.length<=arr.size:=by rw[hin];omega
 have hrun:=jW (P:=P) (w:=w) (ty:=o.type) (c:=cp) (ud:=.slice e2) ht hu (fun k h=>by cases h) hi n4 (by rw[hin];exact n5) h6 hfz hroom hfit (cT (S:=fun _ _=>True) (c:=cx E g σ w) n2);rw[hin] at hrun;have hnew:=hs.setShr (cells':=cells.take (n*z')++l2.flatten++cells.drop (n*z'+l2.flatten.length)) (arr':=(arr.toList.take (n*z')++news++arr.toList.drop (n*z'+news.length)).toArray) hcl (cF hbk) h6 hfz
  (by simp;omega) h7 (by
   refine iT (by rw[hlen]) h5 (by simpa using h8) (fun j y hj=>?_);obtain⟨v,h3,h4⟩:=n2.get hj
   exact⟨v,h3,(cQ (c:=cx E g σ w) h4).2⟩)
 refine bP hnew (val:=.slice (some ⟨g.β so,0,none⟩) (n+l2.length) cp) ?_ fun d hdd=>⟨hd d hdd,?_⟩
 ·simp [execOp,hop,resolve,invoke,builtin,e1',hrun]
 ·have e0':so < σ.sh.length:=e0
  exact⟨by show so < (σ.sh.set so _).length;simpa using e0',cp,rfl,hroom,e3⟩
theorem ES (hs:Sim E g σ a w) (hd:∀ d,o.dst=some d->d < E.nt) {t e:TypeId} {x lo hi:Operand} {rx rl rh:AR} (hop:o.op=.slice t x (some lo) (some hi) none) (hx:okR x rx=true) (hl:okR lo rl=true) (hh:okR hi rh=true)
  {len:Nat} (ht:P.underlying t=some (.array len e)) (hz:aO P e=some 1) {so off:Nat} {k1 k2:IntKind} {i j:Int} (he:ev σ.fr rx=.ptr so off) (hli:ev σ.fr rl=.int k1 i) (hhj:ev σ.fr rh=.int k2 j)
  (h0:0<=i) (hij:i < j) (hj:j<=len) {cells:List AV} (hc:σ.sh[so]?=some cells) (hbk:bV cells=true) (hfit:off+len<=cells.length) :
  o.wp P a w (aR E (put σ o.dst (.ss so (off+i.toNat) (j.toNat - i.toNat) 1))) Q:=by
 obtain⟨e0,e1⟩:=hs.rd hx he;have e2:=hs.rdNat hl hli;have e3:=hs.rdNat hh hhj;obtain⟨_,k2',_⟩:=hs.shr so cells hc (cF hbk);obtain⟨arr,ty,fz,h6,hfz,h7,h8⟩:=k2' hbk;have hal:=lK h8;have h7':=h7.1;obtain⟨inf,hi1,hi2⟩:=cO hz;obtain⟨i,rfl⟩:=Int.eq_ofNat_of_zero_le h0;obtain⟨j,rfl⟩:=Int.eq_ofNat_of_zero_le (show 0<=j by omega);have hij':i < j:=by omega
 have hj':j<=len:=by omega
 simp only[Int.toNat_natCast];have hbd:(Instr.sliceBounds false len len (some (.int k1 (i:Int))) (some (.int k2 (j:Int))) none).run P w=.ok (i,j,len) w:=by
  have q1:∀ code,(Instr.sliceBound (.int k1 (i:Int)) j code).run P w=.ok i w:=fun code=>bX (by omega) w
  have q2:∀ code,(Instr.sliceBound (.int k2 (j:Int)) len code).run P w=.ok j w:=fun code=>bX hj' w
  unfold Instr.sliceBounds;simp [q1,q2]
 have hne:len≠i:=by omega
 have hrun:(execOp a.eval o).run P w=.ok (.value (.slice (some ⟨(cx E g σ w).β so,off+i,none⟩) (j - i) (len - i))) w:=by
  simp [execOp,hop,e1,e2,e3,Instr.sliceAt,Instr.sureAddr,run_underlying ht,hbd,sizeOf,typeInfo,hi1,hi2,cG,hne]
 refine aG hs hd hrun rfl ⟨e0,len - i,rfl,by omega,?_,fun h=>absurd rfl h⟩;show off+i+(len - i)*1<=g.bs so / 2;omega
end
end Go.Av
