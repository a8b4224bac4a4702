/- A part of the frame (Ev8 Ev9 Ev10 Ev11a Ev11b). No conditions. -/
import Derived.Test.YtmjfblcmbcfkcaaGreatDoorG2Ev4to7
import Derived.Laws.CopyRow
open List
set_option linter.unusedSimpArgs false
set_option linter.unusedVariables false
set_option linter.unusedSectionVars false
set_option maxRecDepth 100000
set_option maxHeartbeats 16000000
namespace Go.Av
variable [Gtab]
open Go.RowKit
section
variable {P:Program} {E:Env} {g g':Gh} {σ σ1:AS} {a:Act} {w w':World} {o:Oper} {Q:Exit->Act->World->Prop}
theorem aL.of_get {R:AV->Value->Prop}:∀ {l:List AV} {vs:List Value},l.length=vs.length->(∀ (j:Nat) (x:AV) (v:Value),l[j]?=some x->vs[j]?=some v->R x v)->aL R l vs
 | [],[],_,_=>trivial
 | x :: l,v :: vs,h,hr=>⟨hr 0 x v rfl rfl,aL.of_get (by simpa using h) fun j y u hy hu=>hr (j+1) y u (by simpa using hy) (by simpa using hu)⟩
 | [],_ :: _,h,_=>by simp at h
 | _ :: _,[],h,_=>by simp at h
theorem uA (off:Nat):∀ (l:List Value) (j:Nat) (arr:Array Value),off+j+l.length<=arr.size ->
  ((l.zipIdx j).foldl (fun (cs:Array Value) (p:Value × Nat)=>cs.setIfInBounds (off+p.2) p.1) arr).toList=arr.toList.take (off+j)++l++arr.toList.drop (off+j+l.length)
 | [],j,arr,_=>by simp
 | v :: l,j,arr,h=>by
  simp only[zipIdx_cons,foldl_cons];rw[uA off l (j+1) (arr.setIfInBounds (off+j) v) (by simp at h ⊢;omega)];have e:=list_seg_step arr.toList (off+j) v l (by simp at h ⊢;omega);simpa [Array.toList_setIfInBounds,Nat.add_assoc] using e
theorem rE {c:Cx} {pl:Nat->Option (Nat × Nat)}:∀ {parts:List (Nat × Operand)} {qs:List (Nat × Nat)} {rs:List AR} {xs:List AV} {cells cs:List AV} {arr:Array Value} {ρ:Operand->Value},
  qX pl parts qs=true->xs.length=rs.length->cC (parts.map (·.2)) rs=true->(∀ (x:Operand) (r:AR) (i:Nat),okR x r=true->rs[i]?=some r->∃ ow v,xs[i]?=some v/\aQ c ow v (ρ x)) ->
  fX cells qs xs=some cs->aL (aF c.S c.w) cells arr.toList ->
  ∃ arr',Instr.fill pl arr (parts.map fun p=>(p.1,ρ p.2))=some arr'/\aL (aF c.S c.w) cs arr'.toList
 | [],[],rs,xs,cells,cs,arr,ρ,_,hl,hr,_,hf,hrep=>by
  have:=r8 hr
  subst this
  have:xs=[]:=eq_nil_of_length_eq_zero (by simpa using hl)
  subst this;simp only[fX,Option.some.injEq] at hf;subst hf;exact⟨arr,rfl,hrep⟩
 | (i,x) :: parts,q :: qs,rs,xs,cells,cs,arr,ρ,hp,hl,hr,hx,hf,hrep=>by
  obtain⟨r,rs',rfl,h1,h2⟩:=oI hr;simp only[qX,Bool.and_eq_true] at hp;obtain⟨ow,v,hv,hrv⟩:=hx x r 0 h1 rfl
  match xs,hl,hv with
  | u :: xs',hl,hv =>
   simp at hv;subst hv;obtain⟨off,n⟩:=q;simp only[fX] at hf
   split at hf
   ·rename_i c1 hc1
    split at hf
    ·rename_i c2 hc2
     obtain⟨h3,h4⟩:=nA hc1 hrv;obtain⟨h5,rfl⟩:=kN hc2;have hsz:(ρ x).cells.size=n:=by have:=h3.length;simp at this;omega
     have hla:arr.size=cells.length:=by have:=hrep.length;simpa using this
     have hpl:pl i=some (off,n):=by simpa using hp.1
     have hfs:=uA off (ρ x).cells.toList 0 arr (by simp [hsz];omega);have hrep':aL (aF c.S c.w) (cells.take off++c1++cells.drop (off+c1.length)) ((ρ x).cells.zipIdx.foldl (fun (cs:Array Value) (p:Value × Nat)=>cs.setIfInBounds (off+p.2) p.1) arr).toList:=by
      have:(ρ x).cells.zipIdx.foldl (fun (cs:Array Value) (p:Value × Nat)=>cs.setIfInBounds (off+p.2) p.1) arr=((ρ x).cells.toList.zipIdx 0).foldl (fun (cs:Array Value) (p:Value × Nat)=>cs.setIfInBounds (off+p.2) p.1) arr:=by
       rw[<- Array.foldl_toList];simp
      rw[this,hfs]
      have:=VR (off:=off) hrep h3
      simpa using this
     obtain⟨arr',h6,h7⟩:=rE (ρ:=ρ) hp.2 (by simpa using hl) h2 (fun y s k hy hs=>hx y s (k+1) hy (by simpa using hs)) hf hrep';refine⟨arr',?_,h7⟩;have hguard:((ρ x).cells.size≠n || decide (off+(ρ x).cells.size > arr.size))=false:=by
      simp [hsz];omega
     simp only[map_cons,Instr.fill,hpl];rw[if_neg (by simpa using hguard)];exact h6
    ·cases hf
   ·cases hf
 | [],_ :: _,_,_,_,_,_,_,hp,_,_,_,_,_=>by simp [qX] at hp
 | _ :: _,[],_,_,_,_,_,_,hp,_,_,_,_,_=>by simp [qX] at hp
theorem Sim.argsT (h:Sim E g σ a w) {rs:List AR} (x:Operand) (r:AR) (i:Nat) (ho:okR x r=true) (hr:rs[i]?=some r) :
  ∃ ow v,(rs.map (ev σ.fr))[i]?=some v/\aQ (cx E g σ w) ow v (a.eval x):=by
 obtain⟨ow,h1,_⟩:=h.rdT ho;exact⟨ow,_,by simp [hr],h1⟩
theorem I2 (hs:Sim E g σ a w) (hd:∀ d,o.dst=some d->d < E.nt) {t:TypeId} {parts:Array (Nat × Operand)} {rs:List AR} {zero cs:List AV} {pl:List (Nat × Nat)} (hop:o.op=.build t parts)
  (hr:cC (parts.toList.map (·.2)) rs=true) (hz:jD P t zero=true) (hpl:qX (pO P t) parts.toList pl=true)
  (hty:(match P.underlying t with
    | some (.array _ e)=>(P.info? e).isSome
    | some (.struct fields)=>(fields.toList.mapM (fun f=>(P.info? f.type).map fun i=>(f.offset,i.size))).isSome
    | _=>false)=true)
  (hf:fX zero pl (rs.map (ev σ.fr))=some cs) :
  o.wp P a w (aU E (put σ o.dst (.agg cs))) Q:=by
 obtain⟨i,zv,h1,h2,h3,_⟩:=jM hz;obtain⟨arr,h4,h5⟩:=rE (c:=cx E g σ w) (ρ:=a.eval) hpl (by simp) hr (fun x r i ho hr=>hs.argsT x r i ho hr) hf (kO h3);refine aH hs hd (val:=.agg arr) ?_ rfl ⟨arr,rfl,h5⟩;have hb:P.built t ((parts.map fun p=>(p.1,a.eval p.2)).toList)=some arr:=by
  unfold Program.built;rw[Array.toList_map];unfold pO at h4
  split at hty
  ·rename_i e hu
   obtain⟨ie,hie⟩:=Option.isSome_iff_exists.1 hty;simp only[hu,hie] at h4;simp only[h1,hu,h2,hie];exact h4
  ·rename_i fields hu
   obtain⟨pls,hpls⟩:=Option.isSome_iff_exists.1 hty;simp only[hu,hpls] at h4;simp only[h1,hu,h2,hpls];exact h4
  ·cases hty
 have:=run_build w t (parts.map fun p=>(p.1,a.eval p.2)) arr hb
 simp [execOp,hop,this]
theorem PG {c:Cx} {R:AV->Value->Prop} {off:Nat} {cells c1:List AV} {vs us:List Value} (h1:aL R cells vs) (h2:aL R c1 us):aL R (cells.take off++c1++cells.drop (off+c1.length)) (vs.take off++us++vs.drop (off+us.length)):=by
 rw[h2.length];exact ((h1.take off).append h2).append (h1.drop _)
theorem uN {c:Cx} {pl:Nat->Option (Nat × Nat)}:∀ {parts:List (Nat × Operand)} {qs:List (Nat × Nat)} {rs:List AR} {xs:List AV} {cells cs:List AV} {arr:Array Value} {ρ:Operand->Value},
  qX pl parts qs=true->xs.length=rs.length->cC (parts.map (·.2)) rs=true->(∀ (x:Operand) (r:AR) (i:Nat),okR x r=true->rs[i]?=some r->∃ ow v,xs[i]?=some v/\aQ c ow v (ρ x)) ->
  nN cells qs xs=some cs->aL (bB c aS) cells arr.toList ->
  ∃ arr',Instr.fill pl arr (parts.map fun p=>(p.1,ρ p.2))=some arr'/\aL (bB c aS) cs arr'.toList
 | [],[],rs,xs,cells,cs,arr,ρ,_,hl,hr,_,hf,hrep=>by
  have:=r8 hr
  subst this
  have:xs=[]:=eq_nil_of_length_eq_zero (by simpa using hl)
  subst this;simp only[nN,Option.some.injEq] at hf;subst hf;exact⟨arr,rfl,hrep⟩
 | (i,x) :: parts,q :: qs,rs,xs,cells,cs,arr,ρ,hp,hl,hr,hx,hf,hrep=>by
  obtain⟨r,rs',rfl,h1,h2⟩:=oI hr;simp only[qX,Bool.and_eq_true] at hp;obtain⟨ow,v,hv,hrv⟩:=hx x r 0 h1 rfl
  match xs,hl,hv with
  | u :: xs',hl,hv =>
   simp at hv;subst hv;obtain⟨off,n⟩:=q;simp only[nN] at hf
   split at hf
   ·rename_i c1 hc1
    split at hf
    ·rename_i c2 hc2
     obtain⟨h30,h31,_,h3⟩:=nC hc1 hrv;obtain⟨h5,rfl⟩:=kN hc2;have h4:aL (bB c aS) c1 (ρ x).cells.toList:=aL.of_get (by simp [h30,h31]) fun j y u hy hu=>by
      obtain⟨u',k1,k2⟩:=h3 j y hy
      have:(ρ x).cells[j]?=some u:=by simpa using hu
      rw[k1] at this;cases this;exact k2
     have hsz:(ρ x).cells.size=n:=h31;have hla:arr.size=cells.length:=by have:=hrep.length;simpa using this
     have hpl:pl i=some (off,n):=by simpa using hp.1
     have hfs:=uA off (ρ x).cells.toList 0 arr (by simp [hsz];omega);have hrep':aL (bB c aS) (cells.take off++c1++cells.drop (off+c1.length)) ((ρ x).cells.zipIdx.foldl (fun (cs:Array Value) (p:Value × Nat)=>cs.setIfInBounds (off+p.2) p.1) arr).toList:=by
      have:(ρ x).cells.zipIdx.foldl (fun (cs:Array Value) (p:Value × Nat)=>cs.setIfInBounds (off+p.2) p.1) arr=((ρ x).cells.toList.zipIdx 0).foldl (fun (cs:Array Value) (p:Value × Nat)=>cs.setIfInBounds (off+p.2) p.1) arr:=by
       rw[<- Array.foldl_toList];simp
      rw[this,hfs]
      have:=PG (c:=c) (off:=off) hrep h4
      simpa using this
     obtain⟨arr',h6,h7⟩:=uN (ρ:=ρ) hp.2 (by simpa using hl) h2 (fun y s k hy hs=>hx y s (k+1) hy (by simpa using hs)) hf hrep';refine⟨arr',?_,h7⟩;have hguard:((ρ x).cells.size≠n || decide (off+(ρ x).cells.size > arr.size))=false:=by
      simp [hsz];omega
     simp only[map_cons,Instr.fill,hpl];rw[if_neg (by simpa using hguard)];exact h6
    ·cases hf
   ·cases hf
 | [],_ :: _,_,_,_,_,_,_,hp,_,_,_,_,_=>by simp [qX] at hp
 | _ :: _,[],_,_,_,_,_,_,hp,_,_,_,_,_=>by simp [qX] at hp
theorem EH (hs:Sim E g σ a w) (hd:∀ d,o.dst=some d->d < E.nt) {t:TypeId} {parts:Array (Nat × Operand)} {rs:List AR} {zero cs:List AV} {pl:List (Nat × Nat)} (hop:o.op=.build t parts)
  (hr:cC (parts.toList.map (·.2)) rs=true) (hz:pF P t zero=true) (hpl:qX (pO P t) parts.toList pl=true)
  (hty:(match P.underlying t with
    | some (.array _ e)=>(P.info? e).isSome
    | some (.struct fields)=>(fields.toList.mapM (fun f=>(P.info? f.type).map fun i=>(f.offset,i.size))).isSome
    | _=>false)=true)
  (hf:nN zero pl (rs.map (ev σ.fr))=some cs) :
  o.wp P a w (aU E (put σ o.dst (.aggR cs))) Q:=by
 obtain⟨i,zv,h1,h2,h3,_⟩:=wA hz;obtain⟨arr,h4,h5⟩:=uN (c:=cx E g σ w) (ρ:=a.eval) hpl (by simp) hr (fun x r i ho hr=>hs.argsT x r i ho hr) hf (r9 h3);refine aH hs hd (val:=.agg arr) ?_ rfl ⟨arr,rfl,h5⟩;have hb:P.built t ((parts.map fun p=>(p.1,a.eval p.2)).toList)=some arr:=by
  unfold Program.built;rw[Array.toList_map];unfold pO at h4
  split at hty
  ·rename_i e hu
   obtain⟨ie,hie⟩:=Option.isSome_iff_exists.1 hty;simp only[hu,hie] at h4;simp only[h1,hu,h2,hie];exact h4
  ·rename_i fields hu
   obtain⟨pls,hpls⟩:=Option.isSome_iff_exists.1 hty;simp only[hu,hpls] at h4;simp only[h1,hu,h2,hpls];exact h4
  ·cases hty
 have:=run_build w t (parts.map fun p=>(p.1,a.eval p.2)) arr hb
 simp [execOp,hop,this]
theorem eO (zero:List AV):∀ n,(b8 zero n).length=n*zero.length
 | 0=>by simp [b8]
 | n+1=>by simp [b8,eO zero n,Nat.add_mul,Nat.add_comm]
theorem nV (zero:List AV):∀ n k,k < n*zero.length->(b8 zero n)[k]?=zero[k % zero.length]?
 | 0,k,h=>by simp at h
 | n+1,k,h=>by
  simp only[b8];rw[getElem?_append];split
  ·rename_i hk;rw[Nat.mod_eq_of_lt hk]
  ·rename_i hk
   rw[Nat.add_mul] at h;rw[nV zero n (k - zero.length) (by omega)]
   congr 1
   rw[Nat.mod_eq_sub_mod (by omega:k ≥ zero.length)]
theorem iX (z:Nat):∀ (n:Nat) (cs:List AV),cs.length=n*z->(dV z n cs).flatten=cs/\(∀ e∈dV z n cs,e.length=z)/\(dV z n cs).length=n
 | 0,cs,h=>by
  have:cs=[]:=eq_nil_of_length_eq_zero (by simpa using h)
  subst this;simp [dV]
 | n+1,cs,h=>by
  have hl:(cs.drop z).length=n*z:=by rw[length_drop,h,Nat.add_mul];omega
  obtain⟨h1,h2,h3⟩:=iX z n (cs.drop z) hl;simp only[dV,flatten_cons,length_cons];refine⟨by rw[h1,take_append_drop],?_,by rw[h3]⟩;intro e he;rcases mem_cons.1 he with rfl | he
  ·rw[length_take,h,Nat.add_mul];omega
  ·exact h2 e he
theorem IJ {S:Nat->Nat->Prop} {b:Nat}:∀ {l:List AV} {vs:List Value} {o:Nat},aL (aF S w) l vs->(∀ j,j < l.length->S b (o+j))->(∀ j v,vs[j]?=some v->w.cell? ⟨b,o+j,none⟩=some v)->eI S w l b o
 | [],_,_,_,_,_=>by simp [eI]
 | x :: l,v :: vs,o,h,hS,hc=>by
  simp only[eI];refine⟨⟨by simpa using hS 0 (by simp),v,by simpa using hc 0 v rfl,h.1⟩,IJ h.2 (fun j hj=>?_) (fun j u hu=>?_)⟩
  ·have:=hS (j+1) (by simpa using hj)
   rwa [show o+1+j=o+(j+1) from by omega]
  ·have:=hc (j+1) u (by simpa using hu)
   rwa [show o+1+j=o+(j+1) from by omega]
 | _ :: _,[],_,h,_,_=>by simp [aL] at h
theorem mE {S:Nat->Nat->Prop} {b z:Nat}:∀ {l:LL} {vs:List Value} {o:Nat},(∀ e∈l,e.length=z)->aL (aF S w) l.flatten vs->(∀ j,j < l.length*z->S b (o+j))->(∀ j v,vs[j]?=some v->w.cell? ⟨b,o+j,none⟩=some v)->gH S w z l b o
 | [],_,_,_,_,_,_=>by simp [gH]
 | e :: l,vs,o,he,h,hS,hc=>by
  simp only[gH];have hez:e.length=z:=he e (by simp);simp only[flatten_cons] at h;have h1:=h.take z;have h2:=h.drop z;rw[take_left' hez] at h1;rw[drop_left' hez] at h2;refine⟨hez,IJ h1 (fun j hj=>hS j (by simp [Nat.add_mul];omega)) (fun j v hv=>hc j v ?_),mE (vs:=vs.drop z) (fun e' he'=>he e' (by simp [he'])) h2 (fun j hj=>?_) (fun j v hv=>?_)⟩
  ·rw[getElem?_take] at hv
   split at hv
   ·exact hv
   ·cases hv
  ·rw[Nat.add_assoc];exact hS _ (by simp [Nat.add_mul];omega)
  ·rw[getElem?_drop] at hv
   rw[Nat.add_assoc];exact hc _ v hv
theorem qA {S:Nat->Nat->Prop} {b z:Nat}:∀ {l:LL} {o:Nat},gH S w z l b o->∃ vs:List Value,vs.length=l.length*z/\aL (aF S w) l.flatten vs/\(∀ j v,vs[j]?=some v->w.cell? ⟨b,o+j,none⟩=some v)/\(∀ e∈l,e.length=z)
 | [],_,_=>⟨[],by simp,by simp [aL],by simp,by simp⟩
 | e :: l,o,h=>by
  simp only[gH] at h;obtain⟨h1,h2,h3⟩:=h;obtain⟨vs,h4,h5,h6,h7⟩:=qA h3;obtain⟨us,h8,h9⟩:=rI h2 z;rw[take_of_length_le (by omega)] at h8;have hus:us.length=z:=by rw[h8.length];exact h1
  refine⟨us++vs,by simp [hus,h4,Nat.add_mul];omega,by simpa using h8.append h5,fun j v hv=>?_,?_⟩
  ·rw[getElem?_append] at hv
   split at hv
   ·exact h9 j v hv
   ·rename_i hj
    have:=h6 (j - us.length) v hv
    rwa [show o+z+(j - us.length)=o+j from by omega] at this
  ·intro e' he'
   rcases mem_cons.1 he' with rfl | he'
   ·exact h1
   ·exact h7 e' he'
end
end Go.Av
namespace Go.Av
variable [Gtab]
open Go.RowKit
section
variable {P:Program} {E:Env} {g g':Gh} {σ σ1:AS} {a:Act} {w w':World} {o:Oper} {Q:Exit->Act->World->Prop}
theorem PS (hs:Sim E g σ a w) (hd:∀ d,o.dst=some d->d < E.nt) {t e:TypeId} {len z:Nat} {parts:Array (Nat × Operand)} {rs:List AR} {zero cs:List AV} (hop:o.op=.buildSlice t len parts)
  (hr:cC (parts.toList.map (·.2)) rs=true) (hu:P.underlying t=some (.slice e)) (hz:jD P e zero=true) (hsz:aV P e=some z) (hz0:0 < z) (hle:len*z<=16777216)
  (hf:fX (b8 zero len) ((parts.toList.map (·.1)).map fun i=>(i*z,z)) (rs.map (ev σ.fr))=some cs) (hcs:cs.length=len*z) :
  o.wp P a w (aU E (put σ o.dst (.sl .full z (dV z len cs)))) Q:=by
 obtain⟨i,zv,h1,h2,h3,h4⟩:=jM hz;obtain⟨i',h1',h5⟩:=dS hsz;rw[h1] at h1';cases h1';have hzl:zero.length=z:=by omega
 have hzr:=kO (S:=SS E g w) (w:=w) h3;have hzv:zv.cells.size=z:=by have:=hzr.length;simp at this;omega
 have hinit:aL (aF (SS E g w) w) (b8 zero len) ((Array.range (len*z)).map (fun k=>zv.cells[k % zv.cells.size]!)).toList:=by
  apply aL.of_get
  ·simp [eO,hzl]
  ·intro j x v hj hv
   have hjl:j < len*z:=by
    have:=(List.getElem?_eq_some_iff.1 hj).1
    rw[eO,hzl] at this;exact this
   rw[nV _ _ _ (by rw[hzl];exact hjl),hzl] at hj;have hjm:j % z < z:=Nat.mod_lt _ hz0;obtain⟨u,hu1,hu2⟩:=hzr.get hj;have hv':v=zv.cells[j % zv.cells.size]!:=by
    simp only[Array.toList_map,Array.toList_range,getElem?_map,getElem?_range hjl,Option.map_some,Option.some.injEq] at hv;exact hv.symm
   have hu3:zv.cells[j % z]?=some u:=by simpa using hu1
   rw[hv',hzv]
   have:zv.cells[j % z]! = u:=by
    rw[getElem!_def,hu3]
   rw[this];exact hu2
 have hok:qX (fun i=>some (i*z,z)) parts.toList ((parts.toList.map (·.1)).map fun i=>(i*z,z))=true:=by
  generalize parts.toList=l
  induction l with
  | nil=>rfl
  | cons p l ih=>simp [qX];simpa using ih
 obtain⟨arr,h6,h7⟩:=rE (c:=cx E g σ w) (ρ:=a.eval) hok (by simp) hr (fun x r i ho hr=>hs.argsT x r i ho hr) hf hinit;obtain⟨hal,hle⟩:=hs.alloc (.cells arr e) .stab;have hm:=hle.cell;obtain⟨f1,f2,f3⟩:=iX z len cs hcs;refine cM hal (val:=.slice (some ⟨w.heap.size,0,none⟩) len len) ?_ fun d hdd=>⟨hd d hdd,?_⟩
 ·have hn:¬ (16777216 < len*z):=by omega
  have h6':Instr.fill (fun i=>some (i*z,z)) ((Array.range (len*z)).map (fun k=>zv.cells[k % zv.cells.size]!)) (parts.toList.map fun p=>(p.1,a.eval p.2))=some arr:=h6;by_cases h0:len*z=0
  ·have h6'':Instr.fill (fun i=>some (i*z,z)) #[] (parts.toList.map fun p=>(p.1,a.eval p.2))=some arr:=by
    have hr0:Array.range 0=#[]:=rfl;rw[h0,hr0] at h6';simpa using h6'
   have hlen:len=0:=by
    rcases Nat.mul_eq_zero.1 h0 with h | h
    ·exact h
    ·omega
   subst hlen;have hr0:Array.range 0=#[]:=rfl;simp [execOp,hop,Instr.buildSlice,run_underlying hu,sizeOf,typeInfo,h1,h5,hr0,h6'',newRow]
  ·simp [execOp,hop,Instr.buildSlice,run_underlying hu,sizeOf,typeInfo,zeroValue,h1,h2,h5,hn,h6',newRow]
   intro h;exact absurd h h0
 ·show aF _ _ (.sl .full z (dV z len cs)) _
  simp only[aF];refine⟨some ⟨w.heap.size,0,none⟩,len,by rw[f3],by rw[f3];exact Nat.le_refl _,fun _=>f3.symm,by simp,.inr ⟨w.heap.size,0,rfl,?_⟩⟩;have h7':=h7.mono (aF.mono hm);refine mE (vs:=arr.toList) f2 (by rw[f1];exact h7') (fun j hj=>.inr (.inl ⟨hs.hsize,by simp,by simp [upd]⟩)) (fun j v hv=>?_);simp only[Nat.zero_add];show (w.alloc (.cells arr e)).cell? _=_;rw[World.cell?_alloc_new];simpa using hv
theorem sP:∀ {pl:List (Nat × Nat)} {xs:List AV} {cells cs:List AV},fX cells pl xs=some cs->cs.length=cells.length
 | [],[],_,_,h=>by simp only[fX,Option.some.injEq] at h;rw[h]
 | (off,n) :: pl,x :: xs,cells,cs,h=>by
  simp only[fX] at h
  split at h
  ·split at h
   ·rename_i c1 hc1 _ c2 hc2
    obtain⟨h5,rfl⟩:=kN hc2;rw[sP h]
    simp;omega
   ·cases h
  ·cases h
 | [],_ :: _,_,_,h=>by simp [fX] at h
 | _ :: _,[],_,_,h=>by simp [fX] at h
theorem PV (hs:Sim E g σ a w) (hd:∀ d,o.dst=some d->d < E.nt) {f:FuncId} {first caps:Array Operand} {rs:List AR} (hop:o.op=.makeFunc (.func f) first caps) (h0:first.isEmpty=true)
  (hr:cC caps.toList rs=true) (hc:((rs.map (ev σ.fr)).all (FI true))=true) :
  o.wp P a w (aU E (put σ o.dst (.fn f (rs.map (ev σ.fr))))) Q:=by
 have h0':first=#[]:=by simpa using h0
 subst h0';refine aH hs hd (val:=.func (.func f) #[] (caps.map a.eval)) ?_ rfl ⟨_,rfl,?_⟩
 ·simp [execOp,hop,Instr.makeFunc]
 ·rw[Array.toList_map]
  generalize caps.toList=l at hr
  clear hop
  induction l generalizing rs with
  | nil=>have:=r8 hr;subst this;exact trivial
  | cons x l ih =>
   obtain⟨r,rs',rfl,h1,h2⟩:=oI hr;simp only[map_cons,all_cons,Bool.and_eq_true] at hc;refine⟨?_,ih hc.2 h2⟩;have hx:=hs.ev_ (ow:=aS) h1;have hc1:=hc.1;generalize ev σ.fr r=v at hx hc1
   cases v<;>simp [FI,cD] at hc1<;>first | exact hx | skip
   rename_i m z ll
   cases m<;>first | exact hx | simp at hc1
theorem sG {n:Int} {k:Nat} (h:zC n=some k):0<=n/\n=(k:Int):=by
 unfold zC at h
 split at h
 ·cases h;omega
 ·cases h
theorem cY {k:IntKind} {i:Nat} {y:Nat} {code:BoundsCode} (h:i<=y) (w:World):(Instr.sliceBound (.int k (i:Int)) y code).run P w=.ok i w:=by
 have h1:(i:Int)<=(y:Int):=by omega
 simp [Instr.sliceBound,asIntOf,h1]
def tA:Option AV->Option Value->Prop
 | none,none=>True
 | some (.int k n),some v=>v=.int k n
 | _,_=>False
theorem rF {str:Bool} {lo hi:Option AV} {lo' hi':Option Value} {n c i j:Nat} (hl:tA lo lo') (hh:tA hi hi') (h1:dZ lo 0=some i) (h2:dZ hi n=some j) (hij:i<=j) (hjn:j<=n) (hnc:n<=c) (w:World) :
  (Instr.sliceBounds str n c lo' hi' none).run P w=.ok (i,j,c) w:=by
 have hlo:∀ code,(match lo' with | some v=>Instr.sliceBound v j code | none=>pure 0).run P w=.ok i w:=by
  intro code;unfold tA at hl
  split at hl
  ·simp only[dZ,Option.some.injEq] at h1;subst h1;rfl
  ·subst hl
   obtain⟨_,rfl⟩:=sG h1;exact cY hij w
  ·exact hl.elim
 have hhi:∀ code,(match hi' with | some v=>Instr.sliceBound v c code | none=>pure n).run P w=.ok j w:=by
  intro code;unfold tA at hh
  split at hh
  ·simp only[dZ,Option.some.injEq] at h2;subst h2;rfl
  ·subst hh
   obtain⟨_,rfl⟩:=sG h2;exact cY (by omega) w
  ·exact hh.elim
 unfold Instr.sliceBounds
 cases lo'<;>cases hi'<;>simp at hlo hhi ⊢<;>simp [hlo,hhi]
theorem BO (hs:Sim E g σ a w) {x:Operand} {r:AR} (hx:okR x r=true) {k:IntKind} {n:Int} (hv:ev σ.fr r=.int k n):tA (some (ev σ.fr r)) (some (a.eval x)):=by
 rw[hv,hs.rdNat hx hv];rfl
theorem n7 (hs:Sim E g σ a w) (hd:∀ d,o.dst=some d->d < E.nt) {t:TypeId} {x:Operand} {lo hi:Option Operand} {r:AR} (hop:o.op=.slice t x lo hi none) (hx:okR x r=true)
  {str:Bool} {z:Nat} (hty:(∃ e,P.underlying t=some (.slice e)/\str=false/\aV P e=some z)\/(P.underlying t=some .string/\str=true)) {lo' hi':Option AV}
  (hl:tA lo' (lo.map a.eval)) (hh:tA hi' (hi.map a.eval)) {v:AV} (hv:bO str z (ev σ.fr r) lo' hi'=some v) :
  o.wp P a w (aU E (put σ o.dst v)) Q:=by
 unfold bO at hv
 split at hv
 ·rename_i m z' l he
  rcases hty with ⟨e,ht,_,hz⟩ | ⟨_,h⟩
  ·split at hv
   ·rename_i i j hi1 hj1
    split at hv
    ·rename_i hc
     cases hv;obtain⟨hij,hjn,hzz⟩:=hc;obtain⟨inf,h1,h2⟩:=dS hz;obtain⟨A,c,e1,e2,_,e4⟩:=hs.rdSl hx he;have hb:=rF (P:=P) (str:=true) hl hh hi1 hj1 hij hjn e2 w;have hlen:((l.take j).drop i).length=j - i:=by rw[length_drop,length_take];omega
     refine aH hs hd (val:=.slice (if c=i then A else A.map (·.add (i*z))) (j - i) (c - i)) ?_ rfl ?_
     ·simp [execOp,hop,e1,Instr.sliceAt,Instr.slice,run_underlying ht,hb,sizeOf,typeInfo,h1,h2]
     ·show aF _ _ (.sl .no z ((l.take j).drop i)) _
      simp only[aF,cx];refine⟨_,_,by rw[hlen],by rw[hlen];omega,by simp,by simp,?_⟩;rcases Nat.eq_zero_or_pos (j - i) with h0 | h0
      ·exact .inl (eq_nil_of_length_eq_zero (by omega))
      ·rcases e4 with rfl | ⟨b,k,rfl,e6⟩
       ·simp at hjn;omega
       ·have hzz':z'=z:=by
         rcases hzz with h | h
         ·exact h
         ·subst h;simp at hjn;omega
        subst hzz'
        refine .inr ⟨b,k+i*z',?_,gH.mk fun q e hq=>?_⟩
        ·rw[if_neg (by omega)];simp [dG]
        ·rw[getElem?_drop,getElem?_take] at hq
         split at hq
         ·have:=e6.get hq
          rw[Nat.add_mul] at this;rw[Nat.add_assoc];exact this
         ·cases hq
    ·cases hv
   ·cases hv
  ·cases h
 ·rename_i so off n z' he
  rcases hty with ⟨e,ht,_,hz⟩ | ⟨_,h⟩
  ·split at hv
   ·rename_i i j hi1 hj1
    split at hv
    ·rename_i hc
     obtain⟨hij,hjn,hzz⟩:=hc;subst hzz;obtain⟨inf,h1,h2⟩:=dS hz;obtain⟨e0,cp,e1,e2,e3⟩:=hs.rd hx he;have hb:=rF (P:=P) (str:=true) hl hh hi1 hj1 hij hjn e2 w;have hrun:(execOp a.eval o).run P w=.ok (.value (.slice (if cp=i then some ⟨(cx E g σ w).β so,off,none⟩ else some ⟨(cx E g σ w).β so,off+i*z',none⟩) (j - i) (cp - i))) w:=by
      simp [execOp,hop,e1,Instr.sliceAt,Instr.slice,run_underlying ht,hb,sizeOf,typeInfo,h1,h2,dG]
     split at hv
     ·rename_i hcc
      cases hv;refine aH hs hd hrun rfl ?_;refine⟨e0,cp - i,?_,by omega,F5 e3 (by omega)⟩;by_cases hci:cp=i
      ·have hi0:i=0:=by omega
       subst hi0;simp [hci]
      ·rw[if_neg hci]
     ·rename_i hcc
      cases hv;refine aH hs hd hrun rfl ?_;show aF _ _ (.sl .no z' []) _;simp only[aF,length_nil];refine⟨_,_,by rw[show j - i=0 by omega],by omega,by simp,by simp,.inl trivial⟩
    ·cases hv
   ·cases hv
  ·cases h
 ·rename_i s he
  rcases hty with ⟨_,_,h,_⟩ | ⟨ht,_⟩
  ·cases h
  ·split at hv
   ·rename_i i j hi1 hj1
    split at hv
    ·rename_i hc
     cases hv;obtain⟨hij,hjn⟩:=hc;obtain⟨b,e1,e2⟩:=hs.rdStr hx he;have hsz:b.size=s.length:=by rw[<- e2];simp
     have hb:=rF (P:=P) (str:=false) hl hh hi1 hj1 hij hjn (Nat.le_refl _) w;refine aH hs hd (val:=.string (b.extract i j)) ?_ rfl ⟨_,rfl,?_⟩
     ·simp [execOp,hop,e1,Instr.sliceAt,Instr.slice,run_underlying ht,hsz,hb]
     ·rw[<- e2]
      simp [ByteArray.data_extract,drop_take]
    ·cases hv
   ·cases hv
 ·cases hv
theorem B5 (hs:Sim E g σ a w) (hd:∀ d,o.dst=some d->d < E.nt) {t:TypeId} {x hi mx:Operand} {r:AR} {z:Nat} (hop:o.op=.slice t x none (some hi) (some mx)) (hx:okR x r=true)
  (h0:lU hi=true) (h1:lU mx=true) (hty:(match P.underlying t with | some (.slice e)=>(P.info? e).isSome | _=>false)=true)
  (hv:(∃ m z l,ev σ.fr r=.sl m z l)\/∃ o off n z,ev σ.fr r=.ss o off n z) :
  o.wp P a w (aU E (put σ o.dst (.sl .full z []))) Q:=by
 obtain⟨k1,e1⟩:∃ k,a.eval hi=.int k 0:=by
  unfold lU at h0;split at h0
  ·exact⟨_,rfl⟩
  ·cases h0
 obtain⟨k2,e2⟩:∃ k,a.eval mx=.int k 0:=by
  unfold lU at h1;split at h1
  ·exact⟨_,rfl⟩
  ·cases h1
 split at hty
 ·rename_i e hu
  obtain⟨inf,hinf⟩:=Option.isSome_iff_exists.1 hty;obtain⟨A,n,c,ex⟩:∃ A n c,a.eval x=.slice A n c:=by
   rcases hv with ⟨m,z,l,he⟩ | ⟨so,off,n,z,he⟩
   ·obtain⟨A,c,h2,_⟩:=hs.rdSl hx he
    exact⟨_,_,_,h2⟩
   ·obtain⟨_,cp,h2,_⟩:=hs.rd hx he
    exact⟨_,_,_,h2⟩
  have hb:(Instr.sliceBounds true n c none (some (.int k1 0)) (some (.int k2 0))).run P w=.ok (0,0,0) w:=by
   simp [Instr.sliceBounds,Instr.sliceBound,asIntOf]
  refine aH hs hd (val:=.slice A 0 0) ?_ rfl ?_
  ·simp [execOp,hop,ex,e1,e2,Instr.sliceAt,Instr.slice,run_underlying hu,hb,sizeOf,typeInfo,hinf]
  ·show aF _ _ (.sl .full z []) _
   simp only[aF];exact⟨A,0,rfl,Nat.le_refl _,fun _=>rfl,by simp,.inl trivial⟩
 ·cases hty
end
end Go.Av
namespace Go.Av
variable [Gtab]
open Go.RowKit
section
variable {P:Program} {E:Env} {g g':Gh} {σ σ1:AS} {a:Act} {w w':World} {o:Oper} {Q:Exit->Act->World->Prop}
theorem wJ (hs:Sim E g σ a w) {y:Operand} {r:AR} (hy:okR y r=true) {str:Bool} {z:Nat} {l2:LL} (h:jW str z (ev σ.fr r)=some l2) :
  ∃ vs:List Value,vs.length=l2.length*z/\aL (aF (SS E g w) w) l2.flatten vs/\(∀ e∈l2,e.length=z) /\
   (∀ w',(Builtin.lenOf (a.eval y)).run P w'=.ok l2.length w')/\(∀ k,(Builtin.firstCells z l2.length (a.eval y)).run P { w with drawn:=k }=.ok vs.toArray { w with drawn:=k }):=by
 unfold jW at h
 split at h
 ·rename_i m z2 l he
  split at h
  ·rename_i hc
   cases h;obtain⟨A,c,e1,_,_,e4⟩:=hs.rdSl hy he;by_cases hl:l2=[]
   ·subst hl
    refine⟨[],by simp,by simp [aL],by simp,fun w'=>by simp [e1,Builtin.lenOf],fun k=>?_⟩;rw[e1]
    cases A<;>simp [Builtin.firstCells,loadCells,loadCellsFrom]
   ·have hz:z2=z:=by
     rcases hc.2 with h | h
     ·exact h
     ·exact absurd h hl
    subst hz;rcases e4 with e4 | ⟨b,k0,rfl,e6⟩
    ·exact absurd e4 hl
    ·obtain⟨vs,v1,v2,v3,v4⟩:=qA e6
     refine⟨vs,v1,v2,v4,fun w'=>by simp [e1,Builtin.lenOf],fun k=>?_⟩;have hld:=run_loadCells_list (P:=P) { w with drawn:=k } ⟨b,k0,none⟩ vs (fun j v hj=>by rw[dG];exact v3 j v hj);rw[v1] at hld;simp [e1,Builtin.firstCells,hld]
  ·cases h
 ·rename_i s he
  split at h
  ·rename_i hc
   cases h;obtain⟨hstr,rfl⟩:=hc;obtain⟨b,e1,e2⟩:=hs.rdStr hy he;have hsz:b.size=s.length:=by rw[<- e2];simp
   refine⟨s.map fun c=>.int .u8 (c.toNat:Int),by simp [aJ],?_,by simp [aJ],fun w'=>by simp [e1,Builtin.lenOf,aJ,hsz],fun k=>?_⟩
   ·have:(aJ s).flatten=s.map fun c=>AV.int .u8 (c.toNat:Int):=by
     unfold aJ
     clear e2 he hy hsz
     induction s with
     | nil=>rfl
     | cons c s ih=>simp at ih ⊢;exact ih
    rw[this]
    clear e2 he hy hsz this
    induction s with
    | nil=>trivial
    | cons c s ih=>exact⟨rfl,ih⟩
   ·have hbl:(aJ s).length=s.length:=by simp [aJ]
    have hbd:b.data=s.toArray:=by rw[<- e2]
    simp [e1,Builtin.firstCells,hbl,hbd]
  ·cases h
 ·cases h
theorem xM {A:Option Addr} {n c z:Nat} {l:LL} {S:Nat->Nat->Prop} (hn:n=l.length) (h:l=[]\/∃ b k,A=some ⟨b,k,none⟩/\gH S w z l b k) :
  ∃ vs:List Value,vs.length=n*z/\aL (aF S w) l.flatten vs/\(∀ e∈l,e.length=z)/\∀ k,(Builtin.firstCells z n (.slice A n c)).run P { w with drawn:=k }=.ok vs.toArray { w with drawn:=k }:=by
 subst hn;by_cases hl:l=[]
 ·subst hl
  refine⟨[],by simp,by simp [aL],by simp,fun k=>?_⟩
  cases A<;>simp [Builtin.firstCells,loadCells,loadCellsFrom]
 ·rcases h with h | ⟨b,k0,rfl,e6⟩
  ·exact absurd h hl
  ·obtain⟨vs,v1,v2,v3,v4⟩:=qA e6
   refine⟨vs,v1,v2,v4,fun k=>?_⟩;have hld:=run_loadCells_list (P:=P) { w with drawn:=k } ⟨b,k0,none⟩ vs (fun j v hj=>by rw[dG];exact v3 j v hj);rw[v1] at hld;simp [Builtin.firstCells,hld]
theorem mS {t u ty e:TypeId} {i:TypeInfo} {zv yv:Value} {A:Option Addr} {n c m:Nat} {olds news:List Value} {ud:TypeDesc} (ht:P.underlying t=some (.slice e)) (hu:P.underlying u=some ud) (hud:∀ k,ud≠.int k)
  (hi:P.info? e=some i) (hz:i.zero=some zv) (hlen:∀ w',(Builtin.lenOf yv).run P w'=.ok m w')
  (hold:∀ k,(Builtin.firstCells i.size n (.slice A n c)).run P { w with drawn:=k }=.ok olds.toArray { w with drawn:=k })
  (hnew:∀ k,(Builtin.firstCells i.size m yv).run P { w with drawn:=k }=.ok news.toArray { w with drawn:=k })
  (hg:c < n+m) (h63:((n+m:Nat):Int)<=9223372036854775807) (hfit:(n+m)*i.bytes<=140737488355328) :
  (Builtin.append_ #[t,u] ty #[.slice A n c,yv]).run P w =
   .ok (.slice (some ⟨w.heap.size,0,none⟩) (n+m) (grownCap w (n+m) c e))
    (w.drew.alloc (.cells (olds.toArray++news.toArray++Builtin.zeroCells zv.cells (grownCap w (n+m) c e - (n+m))) e)):=by
 have hn:¬ (n+m<=c):=by omega
 have h63':¬ (9223372036854775807 < ((n:Int)+(m:Int))):=by omega
 have hfit':¬ (281474976710656 < Builtin.nextslicecap (n+m) c*i.bytes):=by have:=growslice_fits hg hfit;omega
 have ho:=hold w.drew.drawn;have hw:=hnew w.drew.drawn;have e0:({ w with drawn:=w.drew.drawn }:World)=w.drew:=rfl;rw[e0] at ho hw;have hroom:∀ (bytes:Nat) (w':World),(askRoom bytes).run P w'=.ok () w':=by
  intro bytes w';unfold askRoom;split<;>rfl
 simp [Builtin.append_,run_underlying ht,run_underlying hu,sizeOf,typeInfo,zeroValue,hi,hz,hlen,hn,h63',hfit',hroom,ho,hw,Question.forced,newRow,grownCap];refine congrArg (fun x=>w.drew.alloc (Obj.cells x e)) ?_;apply Array.ext';simp
theorem AN {t u ty e e':TypeId} {i:TypeInfo} {yv:Value} {b n c m:Nat} {cur:Array Value} {news:List Value} {ud:TypeDesc} (ht:P.underlying t=some (.slice e)) (hu:P.underlying u=some ud) (hud:∀ k,ud≠.int k)
  (hi:P.info? e=some i) (hlen:∀ w',(Builtin.lenOf yv).run P w'=.ok m w')
  (hnew:∀ k,(Builtin.firstCells i.size m yv).run P { w with drawn:=k }=.ok news.toArray { w with drawn:=k })
  (hg:w.heap[b]?=some (.cells cur e' (0,0))) (hroom:n+m<=c) (hfit:n*i.size+news.length<=cur.size) (h1:∀ v∈news,v.oneCell'=true) :
  (Builtin.append_ #[t,u] ty #[.slice (some ⟨b,0,none⟩) n c,yv]).run P w =
   .ok (.slice (some ⟨b,0,none⟩) (n+m) c) (w.setRow b (cur.toList.take (n*i.size)++news++cur.toList.drop (n*i.size+news.length)).toArray):=by
 have hw:=hnew w.drawn;have hst:=run_storeCells_at P b (n*i.size) e' news 0 cur w hg (by simpa using hfit) h1;simp only[Nat.add_zero] at hst;simp [Builtin.append_,run_underlying ht,run_underlying hu,sizeOf,typeInfo,hi,hlen,hroom,hw,dG,hst]
theorem mR {t u ty e:TypeId} {i:TypeInfo} {yv:Value} {A:Option Addr} {n c:Nat} {ud:TypeDesc} (ht:P.underlying t=some (.slice e)) (hu:P.underlying u=some ud) (hud:∀ k,ud≠.int k)
  (hi:P.info? e=some i) (hlen:∀ w',(Builtin.lenOf yv).run P w'=.ok 0 w')
  (hnew:∀ k,(Builtin.firstCells i.size 0 yv).run P { w with drawn:=k }=.ok #[] { w with drawn:=k }) (hroom:n<=c) :
  (Builtin.append_ #[t,u] ty #[.slice A n c,yv]).run P w=.ok (.slice A n c) w:=by
 have hw:=hnew w.drawn
 cases A<;>simp [Builtin.append_,run_underlying ht,run_underlying hu,sizeOf,typeInfo,hi,hlen,hroom,hw,storeCells]
theorem GU (hs:Sim E g σ a w) {x:Operand} {rx:AR} (hx:okR x rx=true) {dem:Option Nat} (hdem:(∃ s,rx=.t s/\dem=some s)\/(∃ v,rx=.c v/\dem=none)) {z:Nat} {l:LL} (he:ev σ.fr rx=.sl .own z l) :
  ∃ s,dem=some s/\eJ g.kd w (.slot s) (a.eval x) z l.length:=by
 rcases hdem with ⟨s,rfl,h⟩ | ⟨v,rfl,h⟩
 ·refine⟨s,h,?_⟩
  obtain⟨ow,h1,h2⟩:=hs.rdT hx;rw[he] at h1;rw[h2 s rfl] at h1;exact h1.2
 ·exfalso
  simp only[ev] at he;subst he;unfold okR at hx
  split at hx
  ·rename_i e2;cases e2
  ·rename_i e2;cases e2
  ·rename_i v0 a0 e2
   cases e2;unfold okV at hx
   split at hx
   ·rename_i e3;cases e3
   ·have:=(zA hx).1
    simp [aI] at this
  ·rename_i e2;cases e2
  ·cases hx
theorem QC (hs:Sim E g σ a w) (hd:∀ d,o.dst=some d->d < E.nt) {t u e:TypeId} {x y:Operand} {rx ry:AR} (hop:o.op=.call { callee:=.builtin .append,args:=#[x,y],argTypes:=#[t,u] })
  (hx:okR x rx=true) (hy:okR y ry=true) {dem:Option Nat} (hdem:(∃ s,rx=.t s/\dem=some s)\/(∃ v,rx=.c v/\dem=none))
  (ht:P.underlying t=some (.slice e)) {str:Bool} {ud:TypeDesc} (hu:P.underlying u=some ud) (hud:∀ k,ud≠.int k) {i:TypeInfo} {zv:Value} {z bytes:Nat} (hi:P.info? e=some i) (hiz:i.size=z) (hib:i.bytes=bytes) (hz:i.zero=some zv) (hzs:zv.cells.size=z)
  {md:Own} {z':Nat} {l l2:LL} (he:ev σ.fr rx=.sl md z' l) (hr:jW str z (ev σ.fr ry)=some l2) (hzz:z'=z\/(l=[]/\md=.full)) (hmd:md≠.no) (hz0:0 < z)
  (hby:(l.length+l2.length)*bytes<=140737488355328) (hle:l.length+l2.length<=4611686018427387904) :
  o.wp P a w (aU E (put (dI σ dem) o.dst (.sl .own z (l++l2)))) Q:=by
 subst hiz;subst hib;obtain⟨news,n1,n2,n3,n4,n5⟩:=wJ (P:=P) hs hy hr;obtain⟨A,c,e1,e2,e3,e4⟩:=hs.rdSl hx he;have e4':l=[]\/∃ b k,A=some ⟨b,k,none⟩/\gH (SS E g w) w i.size l b k:=by
  rcases hzz with h | h
  ·rw[<- h];exact e4
  ·exact .inl h.1
 obtain⟨olds,o1,o2,o3,o4⟩:=xM (P:=P) (A:=A) (c:=c) (w:=w) rfl e4';have hrunof:∀ v w',(Builtin.append_ #[t,u] o.type #[.slice A l.length c,a.eval y]).run P w=.ok v w'->(execOp a.eval o).run P w=.ok (.value v) w':=by
  intro v w' h;simp [execOp,hop,resolve,invoke,builtin,e1,h]
 have hsd:=hs.dem_ dem;have hflat:aL (aF (SS E g w) w) (l++l2).flatten (olds++news):=by
  rw[flatten_append];exact o2.append n2
 have hez:∀ e∈l++l2,e.length=i.size:=fun e he=>by
  rcases mem_append.1 he with h | h
  ·exact o3 e h
  ·exact n3 e h
 have hlen:(olds++news).length=(l++l2).length*i.size:=by simp [o1,n1,Nat.add_mul]
 have hown:c=l.length\/∃ s b arr ty,dem=some s/\A=some ⟨b,0,none⟩/\w.heap[b]?=some (.cells arr ty (0,0))/\arr.size=c*i.size/\g.kd b=.own (.slot s) (l.length*i.size):=by
  cases md with
  | no=>exact absurd rfl hmd
  | full=>exact .inl (e3 rfl)
  | own =>
   obtain⟨s,hs1,A',c',hv,h2⟩:=GU hs hx hdem he;rw[e1] at hv
   injection hv with hA _ hc
   subst hA;subst hc;have hzz':z'=i.size:=by
    rcases hzz with h | h
    ·exact h
    ·cases h.2
   subst hzz';rcases h2 with h2 | ⟨b,arr,ty,h3,h4,h5,h6⟩
   ·exact .inl h2
   ·exact .inr ⟨s,b,arr,ty,hs1,h3,h4,h5,h6⟩
 by_cases hg:c < l.length+l2.length
 ·
  have hrun:=mS (P:=P) (w:=w) (ty:=o.type) ht hu hud hi hz n4 o4 n5 hg (by omega) hby;have h1:=hsd.drawn (w.drawn+1);obtain⟨h2,hle2⟩:=h1.alloc (.cells (olds.toArray++news.toArray++Builtin.zeroCells zv.cells (grownCap w (l.length+l2.length) c e - (l.length+l2.length))) e) (.own (.slot (o.dst.getD 0)) ((l.length+l2.length)*i.size));have hm:=hle2.cell;have hflat':aL (aF (SS E g w) { w with drawn:=w.drawn+1 }) (l++l2).flatten (olds++news):=hflat.mono (aF.mono (S:=SS E g w) (S':=SS E g w) (w:=w) (w':={ w with drawn:=w.drawn+1 }) fun b n h=>⟨h,rfl⟩);refine cM h2 (hrunof _ _ hrun) fun d hdd=>⟨hd d hdd,?_,?_⟩
  ·simp only[aF]
   refine⟨_,_,by rw[length_append],by rw[length_append];exact grownCap_ge w _ _ _,by simp,by simp,.inr ⟨w.heap.size,0,rfl,?_⟩⟩;refine mE (vs:=olds++news) hez (hflat'.mono (aF.mono hm)) (fun j hj=>.inr (.inr ⟨by simp,.slot (o.dst.getD 0),(l.length+l2.length)*i.size,by simp [upd],?_⟩)) (fun j v hv=>?_)
   ·simpa using hj
   ·simp only[Nat.zero_add]
    show (World.alloc _ (.cells _ e)).cell? _=_;rw[show w.heap.size=({ w with drawn:=w.drawn+1 }:World).heap.size from rfl,World.cell?_alloc_new];rw[Array.getElem?_append_left]
    ·simpa using hv
    ·have:=(List.getElem?_eq_some_iff.1 hv).1
     simpa using this
  ·refine⟨_,_,by rw[length_append],.inr ⟨w.heap.size,_,e,rfl,heap_alloc_new _ _,?_,?_⟩⟩
   ·have hge:=grownCap_ge w (l.length+l2.length) c e
    simp only[Array.size_append,size_toArray,size_zeroCells,hzs,o1,n1,<- Nat.add_mul]
    congr 1
    omega
   ·simp [upd,hdd]
 ·rcases hown with hcn | ⟨s,b,arr,ty,hs1,rfl,h4,h5,h6⟩
  ·
   have hm0:l2.length=0:=by omega
   have hl2:l2=[]:=eq_nil_of_length_eq_zero hm0;subst hl2;have hnews:news=[]:=eq_nil_of_length_eq_zero (by simpa using n1);subst hnews;have hrun:=mR (P:=P) (w:=w) (ty:=o.type) (A:=A) (c:=c) ht hu hud hi (by simpa using n4) (by simpa using n5) e2;refine cM hsd (hrunof _ _ hrun) fun d hdd=>⟨hd d hdd,?_,?_⟩
   ·rw[append_nil]
    simp only[aF];exact⟨A,c,rfl,e2,by simp,by simp,e4'⟩
   ·rw[append_nil]
    exact⟨A,c,rfl,.inl hcn⟩
  ·subst hs1
   by_cases hm0:l2=[]
   ·subst hm0
    have hnews:news=[]:=eq_nil_of_length_eq_zero (by simpa using n1);subst hnews;have hrun:=mR (P:=P) (w:=w) (ty:=o.type) (A:=some ⟨b,0,none⟩) (c:=c) ht hu hud hi (by simpa using n4) (by simpa using n5) e2;have hfree:t7 (dI σ (some s)) (.slot s):=by
     intro z' l' e;simp only[dI,upd,if_true] at e
     have:=congrArg aI e
     rw[lY,e] at this;simp [aI] at this
    obtain⟨h8,hle9⟩:=hsd.turn (t':=.slot (o.dst.getD 0)) (arr':=arr) h4 h6 hfree (Nat.le_refl _) (fun _ _=>rfl);rw[setRow_self h4] at h8 hle9;have h9:=hle9.cell;refine cM h8 (hrunof _ _ hrun) fun d hdd=>⟨hd d hdd,?_,?_⟩
    ·rw[append_nil]
     have:aF (SS E g w) w (.sl .no i.size l) (.slice (some ⟨b,0,none⟩) l.length c):=by
      simp only[aF];exact⟨_,c,rfl,e2,by simp,by simp,e4'⟩
     exact aF.mono h9 _ _ this
    ·rw[append_nil]
     exact⟨_,c,rfl,.inr ⟨b,arr,ty,rfl,h4,h5,by simp [upd,hdd]⟩⟩
   ·have hm1:0 < l2.length:=by
     rcases Nat.eq_zero_or_pos l2.length with h | h
     ·exact absurd (eq_nil_of_length_eq_zero h) hm0
     ·exact h
    have hroom:l.length+l2.length<=c:=by omega
    have hfit:l.length*i.size+news.length<=arr.size:=by rw[n1,h5,<- Nat.add_mul];exact Nat.mul_le_mul_right _ hroom
    have hlb:b < w.heap.size:=gZ h4;have hrun:=AN (P:=P) (w:=w) (ty:=o.type) (c:=c) ht hu hud hi n4 n5 h4 hroom hfit (eF (S:=fun _ _=>True) (c:=cx E g σ w) n2);generalize harr:(arr.toList.take (l.length*i.size)++news++arr.toList.drop (l.length*i.size+news.length)).toArray=arr' at hrun;have hsz':arr'.size=arr.size:=by rw[<- harr];simp;omega
    have hlow:∀ j,j < l.length*i.size->arr'[j]?=arr[j]?:=by
     intro j hj;rw[<- harr];have hlt:l.length*i.size<=arr.size:=by omega
     rw[getElem?_toArray,append_assoc,getElem?_append_left (by simp;omega),getElem?_take_of_lt hj];simp
    have hhigh:∀ j v,news[j]?=some v->arr'[l.length*i.size+j]?=some v:=by
     intro j v hv;have hj:=(List.getElem?_eq_some_iff.1 hv).1;rw[<- harr,getElem?_toArray,getElem?_append_left (by simp;omega),getElem?_append_right (by simp;omega)];rw[<- hv];congr 1;simp;omega
    have hfree:t7 (dI σ (some s)) (.slot s):=by
     intro z' l' e;simp only[dI,upd,if_true] at e
     have:=congrArg aI e
     rw[lY,e] at this;simp [aI] at this
    obtain⟨h8,hle9⟩:=hsd.turn (t':=.slot (o.dst.getD 0)) (k':=(l.length+l2.length)*i.size) (arr':=arr') h4 h6 hfree (Nat.mul_le_mul_right _ (by omega)) hlow;have h9:=hle9.cell;have hsr:(w.setRow b arr').heap.size=w.heap.size:=by simp [World.setRow]
    have hcell:∀ j,(w.setRow b arr').cell? ⟨b,j,none⟩=arr'[j]?:=fun j=>cell_setRow_same w b j arr arr' ty (0,0) h4
    refine cM h8 (hrunof _ _ hrun) fun d hdd=>⟨hd d hdd,?_,?_⟩
    ·simp only[aF]
     refine⟨_,c,by rw[length_append],by rw[length_append];exact hroom,by simp,by simp,.inr ⟨b,0,rfl,gH.mk fun q e hq=>?_⟩⟩;rw[getElem?_append] at hq
     split at hq
     ·rcases e4' with rfl | ⟨b',k',hA,e6⟩
      ·simp at hq
      ·injection hA with hA
       injection hA with hb hk
       subst hb;subst hk
       have:=e6.get hq
       exact⟨this.1,eI.mono h9 _ _ _ this.2⟩
     ·rename_i hge
      have hS:∀ j,j < l2.length*i.size->SS E { g with kd:=upd g.kd b (.own (.slot (o.dst.getD 0)) ((l.length+l2.length)*i.size)) } (w.setRow b arr') b (l.length*i.size+j):=fun j hj =>
       .inr (.inr ⟨by rw[hsr];exact hlb,.slot (o.dst.getD 0),(l.length+l2.length)*i.size,by simp [upd],by rw[Nat.add_mul];omega⟩)
      have hR2:=mE (S:=SS E { g with kd:=upd g.kd b (.own (.slot (o.dst.getD 0)) ((l.length+l2.length)*i.size)) } (w.setRow b arr')) (w:=w.setRow b arr') (b:=b) (o:=l.length*i.size) n3 (n2.mono (aF.mono h9)) hS (fun j v hv=>by rw[hcell];exact hhigh j v hv)
      have:=hR2.get hq
      have hq':l.length*i.size+(q - l.length)*i.size=0+q*i.size:=by
       rw[<- Nat.add_mul,Nat.zero_add];congr 1;omega
      rw[hq'] at this;exact this
    ·refine⟨_,c,by rw[length_append],.inr ⟨b,arr',ty,rfl,setRow_heap w b arr arr' ty (0,0) h4,by rw[hsz',h5],by simp [upd,hdd]⟩⟩
end
end Go.Av
namespace Go.Av
variable [Gtab]
open Go.RowKit
section
variable {P:Program} {E:Env} {g g':Gh} {σ σ1:AS} {a:Act} {w w':World} {o:Oper} {Q:Exit->Act->World->Prop}
def Cx.noloc (c:Cx):Cx:={ c with lam:=fun _=>0,live:=fun _=>False }
theorem FO {c:Cx} {x:AV} {v:Value}:aR c.noloc x v↔aR c x v:=by cases x<;>exact Iff.rfl
theorem o5 {c:Cx} {ow:Value->Nat->Nat->Prop} {x:AV} {v:Value}:bB c.noloc ow x v↔bB c ow x v:=by
 cases x with
 | sl m z l=>cases m<;>exact Iff.rfl
 | _=>exact Iff.rfl
theorem yD {c:Cx}:∀ {l:LL} {es:List MapEntry},dT c.noloc l es↔dT c l es
 | [],[]=>Iff.rfl
 | [k,v] :: l,e :: es=>by simp only[dT,FO,yD]
 | [],_ :: _=>Iff.rfl
 | [] :: _,_=>Iff.rfl
 | [_] :: _,_=>Iff.rfl
 | (_ :: _ :: _ :: _) :: _,_=>Iff.rfl
 | [_,_] :: _,[]=>Iff.rfl
theorem FQ {c:Cx} {ow:Nat->Value->Nat->Nat->Prop} {b n:Nat} {cells:List AV}:qI c.noloc ow w b n cells↔qI c ow w b n cells:=by simp only[qI,o5]
theorem FP {c:Cx} {b:Nat} {cells:List AV}:o6 c.noloc w b cells↔o6 c w b cells:=by
 unfold o6;split
 ·simp only[yD]
 ·exact Iff.rfl
theorem QqQ {c:Cx} {ow:Nat->Value->Nat->Nat->Prop} {b n:Nat} {cells:List AV}:tD c.noloc ow w b n cells↔tD c ow w b n cells:=by simp only[tD,FQ,FP]
theorem NY:(cx E g σ w).noloc=cx0 g.β g.bs (SS E g w) w σ.sh.length:=rfl
def kdC (kd:Nat->BK) (w:World) (b:Nat):BK:=if b < w.heap.size then (match kd b with | .own (.slot _) _=>.stab | x=>x) else .stab
def oC (kd:Nat->BK) (w:World) (b:Nat):Option Nat:=if b < w.heap.size then (match kd b with | .own (.cell _ _) k=>some k | _=>none) else none
theorem HP {kd:Nat->BK} {b i:Nat} (hb:b < w.heap.size) (h:kd b=.shr i):kdC kd w b=.shr i:=by simp [kdC,hb,h]
theorem vI {kd:Nat->BK} {b k:Nat} (h:oC kd w b=some k):b < w.heap.size/\∃ i j,kd b=.own (.cell i j) k:=by
 unfold oC at h
 split at h
 ·rename_i hb
  split at h
  ·rename_i i j k' hk;cases h;exact⟨hb,i,j,hk⟩
  ·cases h
 ·cases h
theorem RN {kd:Nat->BK} {b k:Nat} {t:Ow} (h:kdC kd w b=.own t k):b < w.heap.size/\∃ i j,t=.cell i j/\kd b=.own (.cell i j) k:=by
 unfold kdC at h
 split at h
 ·rename_i hb
  split at h
  ·cases h
  ·rename_i hne
   cases t with
   | slot s=>exact absurd h (hne s k)
   | cell i j=>exact⟨hb,i,j,rfl,h⟩
 ·cases h
theorem Sim.globOK (h:Sim E g σ a w):lM (SS E g w) w:=fun i k l ht=>eI.mono (fun b o hs=>⟨.inl ⟨(h.s0 b o hs).1,hs⟩,h.sframe b o hs⟩) _ _ _ (h.gl i k l ht)
theorem Sim.globOK' (h:Sim E g σ a w):lM (fun b _=>b < w.heap.size) w:=fun i k l ht=>eI.mono (fun b o hs=>⟨SS.lt h hs,rfl⟩) _ _ _ (h.globOK i k l ht)
theorem Sim.ent (h:Sim E g σ a w):pE σ.sh (kdC g.kd w) g.β g.bs (SS E g w) (oC g.kd w) w:=by
 refine⟨⟨fun i cells hi hd=>?_,fun i hi=>?_⟩,fun b n hs=>⟨SS.lt h hs,fun i hi=>SS.nshr h hs hi,fun k hk=>?_⟩,fun b k hk=>?_,fun b t k hk hlt=>?_,h.globOK⟩
 ·obtain⟨h1,h2⟩:=h.shr i cells hi hd
  have hlt:=h.shrlt i (List.getElem?_eq_some_iff.1 hi).1;refine⟨HP hlt h1,?_⟩;rw[<- NY,QqQ];refine h2.mono (Cx.le.refl _) rfl (fun j z l v _ ho=>?_);obtain⟨A,c,e1,e2⟩:=ho;refine⟨A,c,e1,?_⟩;rcases e2 with e2 | ⟨b,ar,tt,e3,e4,e5,e6⟩
  ·exact .inl e2
  ·exact .inr ⟨b,ar,tt,e3,e4,e5,by simp [kdC,gZ e4,e6]⟩
 ·obtain⟨j,hj⟩:=h.shrk i hi
  exact⟨h.shrlt i hi,j,HP (h.shrlt i hi) hj⟩
 ·obtain⟨_,i,j,hk'⟩:=vI hk
  exact SS.own h hs hk'
 ·obtain⟨hlt,i,j,hk'⟩:=vI hk
  refine⟨hlt,fun i' hi' e=>?_,.cell i j,k,by simp [kdC,hlt,hk'],Nat.le_refl _⟩;obtain⟨j',hj'⟩:=h.shrk i' hi';rw[e,hk'] at hj';cases hj'
 ·obtain⟨hb,i,j,_,hk'⟩:=RN hk
  simp [oC,hb,hk']
open Classical in
theorem Sim.after (h:Sim E g σ a w) {sh':LL} {r:AV} {v:Value} {kd':Nat->BK} {β' bs':Nat->Nat} (ha:After (SS E g w) (oC g.kd w) g.β g.bs w σ.sh sh' r v kd' β' bs' w') :
  ∃ g',Sim E g' { σ with sh:=sh' } a w'/\aQ (cx E g' { σ with sh:=sh' } w') aS r v/\Cx.le (cx E g σ w) (cx E g' { σ with sh:=sh' } w'):=by
 let kd2:Nat->BK:=fun b=>if b < w.heap.size/\oC g.kd w b=none/\(∀ i,i < σ.sh.length->g.β i≠b) then g.kd b else kd' b
 let g':Gh:={ β:=β',bs:=bs',lam:=g.lam,kd:=kd2 }
 have hold:∀ b,b < w.heap.size->oC g.kd w b=none->(∀ i,i < σ.sh.length->g.β i≠b)->kd2 b=g.kd b:=fun b h1 h2 h3=>by simp only[kd2];rw[if_pos ⟨h1,h2,h3⟩]
 have hnew:∀ b,¬ (b < w.heap.size/\oC g.kd w b=none/\(∀ i,i < σ.sh.length->g.β i≠b))->kd2 b=kd' b:=fun b h1=>by simp only[kd2];rw[if_neg h1]
 have hnshr:∀ b,(∀ i,g.kd b≠.shr i)->∀ i,i < σ.sh.length->g.β i≠b:=by
  intro b hb i hi e;obtain⟨j,hj⟩:=h.shrk i hi;rw[e] at hj;exact hb j hj
 have hm:∀ b n,SS E g w b n->SS E g' w' b n/\w'.cell? ⟨b,n,none⟩=w.cell? ⟨b,n,none⟩:=by
  intro b n hs;refine⟨?_,ha.sframe b n hs⟩;have hlt:=SS.lt h hs;rcases hs with hs | ⟨h1,h2,h3⟩ | ⟨h1,t,k,h2,h3⟩
  ·exact .inl hs
  ·refine .inr (.inl ⟨h1,Nat.lt_of_lt_of_le h2 ha.size,?_⟩)
   show kd2 b=_;rw[hold b hlt (by simp [oC,h3]) (hnshr b (fun i e=>by rw[h3] at e;cases e))];exact h3
  ·cases t with
   | slot s =>
    refine .inr (.inr ⟨Nat.lt_of_lt_of_le h1 ha.size,.slot s,k,?_,h3⟩)
    show kd2 b=_;rw[hold b hlt (by simp [oC,h2]) (hnshr b (fun i e=>by rw[h2] at e;cases e))];exact h2
   | cell i j =>
    have ho:oC g.kd w b=some k:=by simp [oC,hlt,h2]
    obtain⟨t',k',e1,e2⟩:=ha.o0 b k ho
    refine .inr (.inr ⟨Nat.lt_of_lt_of_le h1 ha.size,t',k',?_,by omega⟩)
    show kd2 b=_;rw[hnew b (fun hc=>by rw[ho] at hc;cases hc.2.1)];exact e1
 have hle:Cx.le (cx E g σ w) (cx E g' { σ with sh:=sh' } w'):=⟨hm,ha.len,fun i hi=>(ha.same i hi).1,fun i hi=>(ha.same i hi).2,fun s hs=>⟨hs,rfl⟩⟩
 have hm1:∀ b n,S1 (SS E g w) w w' kd' b n->SS E g' w' b n:=by
  rintro b n (hs | ⟨h1,h2,h3⟩ | ⟨h1,t,k,h2,h3⟩)
  ·exact (hm b n hs).1
  ·refine .inr (.inl ⟨Nat.le_trans h.hsize h1,h2,?_⟩)
   show kd2 b=_;rw[hnew b (fun hc=>by omega)];exact h3
  ·refine .inr (.inr ⟨h1,t,k,?_,h3⟩)
   show kd2 b=_;rw[hnew b (fun hc=>?_)];exact h2;rcases ha.own0 b t k h2 with h4 | h4
   ·omega
   ·rw[hc.2.1] at h4;cases h4
 have hle1:Cx.le (cx0 β' bs' (S1 (SS E g w) w w' kd') w' sh'.length) (cx E g' { σ with sh:=sh' } w'):=⟨fun b n hs=>⟨hm1 b n hs,rfl⟩,Nat.le_refl _,fun _ _=>rfl,fun _ _=>rfl,fun s hs=>hs.elim⟩
 have hkown:∀ b t k,kd' b=.own t k->kd2 b=.own t k:=by
  intro b t k hk;rw[hnew b (fun hc=>?_)];exact hk;rcases ha.own0 b t k hk with h4 | h4
  ·omega
  ·rw[hc.2.1] at h4;cases h4
 have hkβ:∀ i,i < sh'.length->kd2 (β' i)=kd' (β' i):=by
  intro i hi;refine hnew _ (fun hc=>?_);rcases Nat.lt_or_ge i σ.sh.length with hil | hil
  ·exact hc.2.2 i hil (ha.same i hil).1.symm
  ·rcases ha.new i hil hi with h9 | ⟨j0,h9,h10,_⟩
   ·omega
   ·exact hc.2.2 j0 h9 h10
 have hslot:∀ t v z n,eJ g.kd w (.slot t) v z n->eJ kd2 w' (.slot t) v z n:=by
  rintro t v z n ⟨A,c,f1,f2⟩
  refine⟨A,c,f1,?_⟩;rcases f2 with f2 | ⟨b,ar,tt,f3,f4,f5,f6⟩
  ·exact .inl f2
  ·have hb:=gZ f4
   have hns:=hnshr b (fun i e=>by rw[f6] at e;cases e);have hoc:oC g.kd w b=none:=by simp [oC,f6]
   exact .inr ⟨b,ar,tt,f3,(ha.frame b hb hns hoc).trans f4,f5,by rw[hold b hb hoc hns];exact f6⟩
 refine⟨g',{ h with os:=ha.os.trans h.os,tape:=ha.tape.trans h.tape,output:=ha.output.trans h.output,hsize:=Nat.le_trans h.hsize ha.size,n0:=Nat.le_trans h.n0 ha.len,slots:=?_,shr:=?_,shr0:=?_,shr1:=?_,shrlt:=?_,shrk:=?_,loc:=?_,o0:=?_,own0:=?_,frame:=?_,sframe:=?_,dd:=fun i hi hd=>ha.deads i (h.dd i hi hd) },?_,hle⟩
 ·intro t
  exact aQ.mono hle _ _ (fun _ _ _=>hslot _ _ _ _) (h.slots t)
 ·intro i cells hi hd
  obtain⟨f1,f2⟩:=ha.shok.1 i cells hi hd;have hil:=(List.getElem?_eq_some_iff.1 hi).1;refine⟨by show kd2 (β' i)=_;rw[hkβ i hil];exact f1,?_⟩;refine f2.mono hle1 rfl (fun j z l v _ ho=>?_);obtain⟨A,c,e1,e2⟩:=ho;refine⟨A,c,e1,?_⟩;rcases e2 with e2 | ⟨b,ar,tt,e3,e4,e5,e6⟩
  ·exact .inl e2
  ·exact .inr ⟨b,ar,tt,e3,e4,e5,hkown _ _ _ e6⟩
 ·intro i hi
  have hn0:=h.n0;show β' i=_/\bs' i=_;rw[(ha.same i (by omega)).1,(ha.same i (by omega)).2];exact h.shr0 i hi
 ·intro i hi hn
  show _<=β' i\/∃ j,j < E.n0/\E.β0 j=β' i/\E.D0 j=false/\sh'[j]?=some aZ;rcases Nat.lt_or_ge i σ.sh.length with hil | hil
  ·rw[(ha.same i hil).1]
   rcases h.shr1 i hil hn with h9 | ⟨j0,h9,h10,h11,h12⟩
   ·exact .inl h9
   ·exact .inr ⟨j0,h9,h10,h11,ha.deads j0 h12⟩
  ·rcases ha.new i hil hi with h9 | ⟨j0,h9,h10,h11,h12⟩
   ·exact .inl (Nat.le_trans h.hsize h9)
   ·rcases Nat.lt_or_ge j0 E.n0 with hj | hj
    ·refine .inr ⟨j0,hj,by rw[<- (h.shr0 j0 hj).1];exact h10,?_,h12⟩
     cases hd0:E.D0 j0 with
     | false=>rfl
     | true=>exact absurd (h.dd j0 hj hd0) h11
    ·rw[<- h10]
     rcases h.shr1 j0 h9 hj with h9 | ⟨j1,h13,h14,h15,h16⟩
     ·exact .inl h9
     ·exact .inr ⟨j1,h13,h14,h15,ha.deads j1 h16⟩
 ·intro i hi;exact (ha.shok.2 i hi).1
 ·intro i hi
  obtain⟨j,hj⟩:=(ha.shok.2 i hi).2;exact⟨j,by show kd2 (β' i)=_;rw[hkβ i hi];exact hj⟩
 ·intro s cells hs
  obtain⟨f1,f2,f3⟩:=h.loc s cells hs;have hb:=f3.lt;have hns:=hnshr (g.lam s) (fun i e=>by rw[f1] at e;cases e);have hoc:oC g.kd w (g.lam s)=none:=by simp [oC,f1]
  exact⟨by show kd2 (g.lam s)=_;rw[hold _ hb hoc hns];exact f1,f2,f3.mono hle (ha.frame _ hb hns hoc) (fun _ _ _ _ _ h=>h)⟩
 ·intro b k hk
  obtain⟨f1,f2,t,k',f3,f4⟩:=h.o0 b k hk;refine⟨f1,f2,?_⟩;have hb:=Nat.lt_of_lt_of_le f1 h.hsize
  cases t with
  | slot s =>
   refine⟨.slot s,k',?_,f4⟩;show kd2 b=_;rw[hold b hb (by simp [oC,f3]) (hnshr b (fun i e=>by rw[f3] at e;cases e))];exact f3
  | cell i j =>
   have ho:oC g.kd w b=some k':=by simp [oC,hb,f3]
   obtain⟨t2,k2,e1,e2⟩:=ha.o0 b k' ho;exact⟨t2,k2,hkown _ _ _ e1,by omega⟩
 ·intro b t k hk
  by_cases hc:b < w.heap.size/\oC g.kd w b=none/\(∀ i,i < σ.sh.length->g.β i≠b)
  ·have:g.kd b=.own t k:=by rw[<- hold b hc.1 hc.2.1 hc.2.2];exact hk
   exact h.own0 b t k this
  ·have hk':kd' b=.own t k:=by rw[<- hnew b hc];exact hk
   rcases ha.own0 b t k hk' with h4 | h4
   ·exact .inl (Nat.le_trans h.hsize h4)
   ·obtain⟨k2,hk2⟩:=Option.isSome_iff_exists.1 h4
    obtain⟨_,i,j,h5⟩:=vI hk2;exact h.own0 b _ _ h5
 ·intro b h1 h2 h3
  have hf1:∀ i,i < σ.sh.length->g.β i≠b:=by
   intro i hi e;rcases Nat.lt_or_ge i E.n0 with hn | hn
   ·exact h2 i hn (by rw[<- (h.shr0 i hn).1];exact e)
   ·rcases h.shr1 i hi hn with h9 | ⟨j0,h9,h10,_⟩
    ·omega
    ·exact h2 j0 h9 (by rw[h10];exact e)
  have hf2:oC g.kd w b=none:=by
   cases ho:oC g.kd w b with
   | none=>rfl
   | some k =>
    obtain⟨_,i,j,h5⟩:=vI ho;rcases h.own0 b _ _ h5 with h6 | h6
    ·omega
    ·rw[h3] at h6;cases h6
  rw[ha.frame b (Nat.lt_of_lt_of_le h1 h.hsize) hf1 hf2];exact h.frame b h1 h2 h3
 ·intro b n hs0
  rw[<- h.sframe b n hs0];exact ha.sframe b n (.inl ⟨(h.s0 b n hs0).1,hs0⟩)
 ·exact aQ.mono hle1 _ _ (fun _ _ _ h=>h) ha.rep
theorem Sim.afterP (h:Sim E g σ a w) {S0:Nat->Nat->Prop} {r:AV} {v:Value} {kd':Nat->BK} {β bs β' bs':Nat->Nat} (ha:After S0 (fun _=>none) β bs w [] [] r v kd' β' bs' w') :
  ∃ g',Sim E g' σ a w'/\Cx.le (cx E g σ w) (cx E g' σ w')/\∀ b n,S1 S0 w w' kd' b n->S0 b n\/SS E g' w' b n:=by
 have hb:∀ b,b < w.heap.size->w'.heap[b]?=w.heap[b]?:=fun b hb=>ha.frame b hb (fun i hi=>by simp at hi) rfl
 let g':Gh:={ g with kd:=fun b=>if b < w.heap.size then g.kd b else (match kd' b with | .own t k=>.own t k | _=>.stab) }
 obtain⟨hs,hle⟩:=h.world (g':=g') (w':=w') ha.os ha.tape ha.output ha.size hb (fun b hb=>by simp [g',hb]) rfl rfl rfl;refine⟨g',hs,hle,?_⟩
 rintro b n (h1 | ⟨h1,h2,h3⟩ | ⟨h1,t,k,h2,h3⟩)
 ·exact .inl h1
 ·refine .inr (.inr (.inl ⟨Nat.le_trans h.hsize h1,h2,?_⟩))
  simp only[g'];rw[if_neg (by omega),h3]
 ·have hge:w.heap.size<=b:=by
   rcases ha.own0 b t k h2 with h4 | h4
   ·exact h4
   ·cases h4
  refine .inr (.inr (.inr ⟨h1,t,k,?_,h3⟩))
  simp only[g'];rw[if_neg (by omega),h2]
end
end Go.Av
namespace Go.Av
variable [Gtab]
open Go.RowKit
section
variable {P:Program} {E:Env} {g g':Gh} {σ σ1:AS} {a:Act} {w w':World} {o:Oper} {Q:Exit->Act->World->Prop}
theorem yA {p q:Bool} {n:Nat} (hn:p=true->n=σ.sh.length) {ow:Value->Nat->Nat->Prop} {x:AV} {v:Value} (hb:gR p x=true) (r:aQ (cx E g σ w) ow x v) :
  aQ (cx0 g.β g.bs (SS E g w) w n) aS (pv q x) v:=by
 have r':aQ (cx E g σ w) aS (pv q x) v:=by
  cases q
  ·exact r.str
  ·exact r.dem
 have hE:∀ (y:AV) (u:Value),FI p y=true->aR (cx E g σ w) y u->aR (cx0 g.β g.bs (SS E g w) w n) y u:=by
  intro y u hy hr
  cases y<;>simp [FI,cD] at hy<;>first | exact hr | skip
  all_goals (rw[hn hy];exact hr)
 cases q<;>cases x with
 | loc=>simp [gR] at hb
 | tup=>simp [gR] at hb
 | mapv=>simp [gR] at hb
 | ptr s off =>
  have:p=true:=by simpa [gR] using hb
  rw[hn this];exact r'
 | ss =>
  have:p=true:=by simpa [gR] using hb
  rw[hn this];exact r'
 | mp =>
  have:p=true:=by simpa [gR] using hb
  rw[hn this];exact r'
 | fn f caps =>
  obtain⟨cv,h1,h2⟩:=r';refine⟨cv,h1,?_⟩;simp only[gR,all_eq_true] at hb;generalize cv.toList=vs at h2
  clear h1 r
  induction caps generalizing vs with
  | nil=>cases vs with
   | nil=>trivial
   | cons=>simp [aL] at h2
  | cons c caps ih=>cases vs with
   | nil=>simp [aL] at h2
   | cons u vs=>exact⟨hE _ _ (hb c (by simp)) h2.1,ih (fun y hy=>hb y (by simp [hy])) vs h2.2⟩
 | sl m z l=>cases m<;>exact r'
 | aggR=>simp [gR] at hb
 | _=>exact r'
theorem zB {c:Cx} {x:AV} {v:Value} (r:aQ c aS x v):aI x=x:=by
 cases x with
 | sl m z l =>
  cases m<;>first | rfl | exact r.2.elim
 | _=>rfl
theorem X9 {β bs:Nat->Nat} {S:Nat->Nat->Prop} (h:∀ b n,S b n->b < w.heap.size) (hg:lM S w):pE [] (fun _=>.stab) β bs S (fun _=>none) w:=by
 refine⟨⟨fun i c hi=>?_,fun i hi=>?_⟩,fun b n hb=>⟨h b n hb,fun i hi=>?_,fun k hk=>?_⟩,fun b k hk=>?_,fun b t k hk=>?_,hg⟩
 ·simp at hi
 ·simp at hi
 ·simp at hi
 ·cases hk
 ·cases hk
 ·cases hk
theorem zP (hs:Sim E g σ a w) (hd:∀ d,o.dst=some d->d < E.nt) {G:aO} (hG:iA P G) {f:FuncId} {vs:Array Value} (hrun:yM P f->(execOp a.eval o).run P w=.ok (.enter f vs) w) (hrunx:∀ v w',(callFunc f vs).run P w=.ok (.value v) w'->(execOp a.eval o).run P w=.ok (.value v) w')
  {ml:ML} {xs:List AV} {m':MV} {v:AV} (hc:l8 G ml f xs (rdm σ ml)=some (v,m'))
  (hargs:∀ p n,(p=true->n=σ.sh.length)->xs.all (gR p)=true->aL (aQ (cx0 g.β g.bs (SS E g w) w n) aS) (xs.map (pv p)) vs.toList) :
  o.wp P a w (aU E (put (wrm σ m' ml) o.dst v)) Q:=by
 unfold l8 at hc
 split at hc
 ·split at hc
  ·rename_i hall
   obtain⟨⟨r,sh'⟩,hr,he⟩:=Option.map_eq_some_iff.1 hc;cases he;have hfin:∀ (u:Value) (w':World) kd' β' bs',After (SS E g w) (oC g.kd w) g.β g.bs w σ.sh sh' r u kd' β' bs' w'->aU E (put (wrm σ ((rdm σ .sh).1,sh') .sh) o.dst r) (a.put o.dst u) w':=by
    intro u w' kd' β' bs' haf;obtain⟨g',h1,h2,_⟩:=hs.after haf;show aU E _ (a.put o.dst u) w';cases hdd:o.dst with
    | none=>exact⟨g',h1⟩
    | some d=>exact⟨g',h1.put_ (hd d hdd) (h2.noown (zB h2))⟩
   unfold Oper.wp;rcases hG _ _ _ _ _ hr with ⟨hreal,hsem⟩ | hx
   ·rw[hrun hreal]
    refine Calls.mono (hsem _ g.β g.bs (SS E g w) _ w vs hs.ent (hargs true _ (fun _=>rfl) hall)) ?_
    rintro e w' ⟨u,kd',β',bs',rfl,haf⟩
    exact hfin _ _ _ _ _ haf
   ·obtain⟨u,w',kd',β',bs',hrn,haf⟩:=hx _ g.β g.bs (SS E g w) _ w vs hs.ent (hargs true _ (fun _=>rfl) hall)
    rw[hrunx _ _ hrn];exact hfin _ _ _ _ _ haf
  ·cases hc
 ·split at hc
  ·rename_i hall
   obtain⟨⟨r,sh'⟩,hr,he⟩:=Option.bind_eq_some_iff.1 hc
   split at he
   ·rename_i hemp
    cases he
    have:sh'=[]:=by simpa using hemp
    subst this;have hent:=X9 (w:=w) (β:=g.β) (bs:=g.bs) (S:=SS E g w) (fun b n hb=>SS.lt hs hb) hs.globOK;have hfin:∀ (u:Value) (w':World) kd' β' bs',After (SS E g w) (fun _=>none) g.β g.bs w [] [] r u kd' β' bs' w'->aU E (put (wrm σ (rdm σ .none) .none) o.dst r) (a.put o.dst u) w':=by
     intro u w' kd' β' bs' haf;obtain⟨g',h1,h2,h3⟩:=hs.afterP haf;have hrep:aQ (cx E g' σ w') aS r u:=by
      refine aQ.mono (c:=cx0 β' bs' (S1 (SS E g w) w w' kd') w' 0) (c':=cx E g' σ w') ⟨fun b n hs=>⟨?_,rfl⟩,Nat.zero_le _,fun i hi=>by simp [cx0] at hi,fun i hi=>by simp [cx0] at hi,fun s hs=>hs.elim⟩ _ _ (fun _ _ _ h=>h) haf.rep;rcases h3 b n hs with h4 | h4
      ·exact (h2.cell b n h4).1
      ·exact h4
     show aU E _ (a.put o.dst u) w';cases hdd:o.dst with
     | none=>exact⟨g',h1⟩
     | some d=>exact⟨g',h1.put_ (hd d hdd) (hrep.noown (zB hrep))⟩
    unfold Oper.wp;rcases hG _ _ _ _ _ hr with ⟨hreal,hsem⟩ | hx
    ·rw[hrun hreal]
     refine Calls.mono (hsem _ g.β g.bs (SS E g w) _ w vs hent (hargs false _ (fun h=>by cases h) hall)) ?_
     rintro e w' ⟨u,kd',β',bs',rfl,haf⟩
     exact hfin _ _ _ _ _ haf
    ·obtain⟨u,w',kd',β',bs',hrn,haf⟩:=hx _ g.β g.bs (SS E g w) _ w vs hent (hargs false _ (fun h=>by cases h) hall)
     rw[hrunx _ _ hrn];exact hfin _ _ _ _ _ haf
   ·cases he
  ·cases hc
 ·cases hc
theorem xZ (hs:Sim E g σ a w) {p q:Bool} {n:Nat} (hn:p=true->n=σ.sh.length):∀ {xs:List Operand} {rs:List AR},cC xs rs=true->(rs.map (ev σ.fr)).all (gR p)=true ->
  aL (aQ (cx0 g.β g.bs (SS E g w) w n) aS) ((rs.map (ev σ.fr)).map (pv q)) (xs.map a.eval)
 | [],rs,h,_=>by have:=r8 h;subst this;trivial
 | x :: xs,rs,h,hall=>by
  obtain⟨r,rs',rfl,h1,h2⟩:=oI h;simp only[map_cons,all_cons,Bool.and_eq_true] at hall;obtain⟨ow,h3,_⟩:=hs.rdT h1;exact⟨yA hn hall.1 h3,xZ hs hn h2 hall.2⟩
theorem iI {f:FuncId} (h:yM P f) (vs:Array Value):(callFunc f vs).run P w=.ok (.enter f vs) w:=by
 obtain⟨fn,h1,h2,h3⟩:=h;have h3':¬ fn.name="runtime.NumGoroutine":=by simpa using h3
 simp [callFunc,program,Sem.run,h1,h3'];intro hb;rw[hb] at h2;cases h2
theorem N4 {c:Cx} {x:AV} {u:Value} (hc:aR c x u):aQ c aS x u:=by
 cases x with
 | sl m z l =>
  have:=aF.top (c:=c) (ow:=aS) (x:=.sl m z l) (v:=u) (by cases m<;>exact hc)
  exact this.1
 | any=>simp [aR,aF] at hc
 | undef=>simp [aR,aF] at hc
 | loc=>simp [aR,aF] at hc
 | ip=>simp [aR,aF] at hc
 | fn=>simp [aR,aF] at hc
 | tup=>simp [aR,aF] at hc
 | mapv=>simp [aR,aF] at hc
 | aggR=>simp [aR,aF] at hc
 | _=>exact hc
theorem DS {p q:Bool} {n:Nat} (hn:p=true->n=σ.sh.length):∀ {caps:List AV} {vs:List Value},aL (aR (cx E g σ w)) caps vs->caps.all (gR p)=true->aL (aQ (cx0 g.β g.bs (SS E g w) w n) aS) (caps.map (pv q)) vs
 | [],[],_,_=>trivial
 | c :: caps,u :: vs,h,hall=>by
  simp only[all_cons,Bool.and_eq_true] at hall;exact⟨yA hn hall.1 (N4 h.1),DS hn h.2 hall.2⟩
 | [],_ :: _,h,_=>by simp [aL] at h
 | _ :: _,[],h,_=>by simp [aL] at h
theorem K5 (hs:Sim E g σ a w) (hd:∀ d,o.dst=some d->d < E.nt) {G:aO} (hG:iA P G) {f:FuncId} {xs:Array Operand} {ts:Array TypeId} {rs:List AR} (hop:o.op=.call { callee:=.value (.func f),args:=xs,argTypes:=ts })
  (hr:cC xs.toList rs=true) {ml:ML} {m':MV} {v:AV} (hc:l8 G ml f (rs.map (ev σ.fr)) (rdm σ ml)=some (v,m')) :
  o.wp P a w (aU E (put (wrm σ m' ml) o.dst v)) Q:=by
 refine zP hs hd hG (vs:=xs.map a.eval) ?_ (fun v w' h=>by simp [execOp,hop,resolve,Deferred.ofValue,Act.eval,invoke,h]) hc (fun p n hn hall=>?_)
 ·intro hreal
  have:=iI (P:=P) (w:=w) hreal (xs.map a.eval)
  simp [execOp,hop,resolve,Deferred.ofValue,Act.eval,invoke,this]
 ·rw[Array.toList_map];exact xZ hs hn hr hall
theorem I0 (hs:Sim E g σ a w) (hd:∀ d,o.dst=some d->d < E.nt) {G:aO} (hG:iA P G) {t:Tmp} {f:FuncId} {caps:List AV} {xs:Array Operand} {ts:Array TypeId} {r:AR} {rs:List AR} (hop:o.op=.call { callee:=.value (.tmp t),args:=xs,argTypes:=ts })
  (hf:okR (.tmp t) r=true) (hr:cC xs.toList rs=true) (he:ev σ.fr r=.fn f caps) {ml:ML} {m':MV} {v:AV} (hc:l8 G ml f (rs.map (ev σ.fr)++caps) (rdm σ ml)=some (v,m')) :
  o.wp P a w (aU E (put (wrm σ m' ml) o.dst v)) Q:=by
 obtain⟨cv,h1,h2⟩:=hs.rd hf he;refine zP hs hd hG (vs:=xs.map a.eval++cv) ?_ (fun v w' h=>by simp [execOp,hop,resolve,Deferred.ofValue,h1,invoke,h]) hc (fun p n hn hall=>?_)
 ·intro hreal
  have:=iI (P:=P) (w:=w) hreal (xs.map a.eval++cv)
  simp [execOp,hop,resolve,Deferred.ofValue,h1,invoke,this]
 ·rw[all_append,Bool.and_eq_true] at hall
  rw[map_append,Array.toList_append,Array.toList_map];exact (xZ hs hn hr hall.1).append (DS hn h2 hall.2)
theorem kA {R:AV->Value->Prop} {cells:List AV} {arr:Array Value} (off m:Nat) (f:AV->AV) (hfit:off+m<=cells.length)
  (h:∀ j x,j < m->cells[off+j]?=some x->∃ u,arr[off+j]?=some u/\R (f x) u):aL R (((cells.drop off).take m).map f) ((arr.toList.drop off).take m):=by
 have hal:off+m<=arr.size\/m=0:=by
  rcases Nat.eq_zero_or_pos m with h0 | h0
  ·exact .inr h0
  ·obtain⟨u,h3,_⟩:=h (m - 1) _ (by omega) (getElem?_eq_getElem (by omega))
   have:=(Array.getElem?_eq_some_iff.1 h3).1
   exact .inl (by omega)
 refine aL.of_get (by simp;omega) fun j x u hx hu=>?_
 have hj:j < m:=by
  have:=(List.getElem?_eq_some_iff.1 hx).1
  simp at this;omega
 rw[getElem?_map,getElem?_take_of_lt hj,getElem?_drop] at hx;rw[getElem?_take_of_lt hj,getElem?_drop] at hu;obtain⟨y,hy,rfl⟩:=Option.map_eq_some_iff.1 hx;obtain⟨u',h3,h4⟩:=h j y hj hy;rw[Array.getElem?_toList,h3] at hu;cases hu;exact h4
theorem tP {c:Cx} {ow:Nat->Value->Nat->Nat->Prop} {b m off n z:Nat} {cells:List AV} {l:LL} {S':Nat->Nat->Prop} (h:dD off n z cells=some l) (ho:qI c ow w b m cells)
  (hS:∀ b' n,c.S b' n->S' b' n/\w.cell? ⟨b',n,none⟩=c.w.cell? ⟨b',n,none⟩) (hb:∀ n,S' b n):0 < z/\l.length=n/\(∀ e∈l,e.length=z)/\gH S' w z l b off /\
  ∃ vs:List Value,vs.length=n*z/\aL (aF S' w) l.flatten vs/\(∀ j v,vs[j]?=some v->w.cell? ⟨b,off+j,none⟩=some v):=by
 unfold dD at h
 split at h
 ·rename_i hc
  obtain⟨h0,h1,h2⟩:=hc;cases h;obtain⟨arr,ty,fz,e1,_,e2,e3⟩:=ho;rw[all_eq_true] at h2;have hrep:aL (aF S' w) (((cells.drop off).take (n*z)).map aI) ((arr.toList.drop off).take (n*z)):=by
   refine kA off (n*z) aI h1 fun j x hj hx=>?_
   obtain⟨u,h3,h4⟩:=e3 _ x hx;refine⟨u,h3,aF.mono hS _ _ (sR (h2 x (mem_iff_getElem?.2 ⟨j,?_⟩)) h4)⟩;rw[getElem?_take_of_lt hj,getElem?_drop];exact hx
  have hlen:(((cells.drop off).take (n*z)).map aI).length=n*z:=by simp;omega
  obtain⟨f1,f2,f3⟩:=iX z n _ hlen;have hcell:∀ j v,((arr.toList.drop off).take (n*z))[j]?=some v->w.cell? ⟨b,off+j,none⟩=some v:=by
   intro j v hv;rw[getElem?_take] at hv
   split at hv
   ·rw[getElem?_drop] at hv
    simp [World.cell?,e1];simpa using hv
   ·cases hv
  have hlv:((arr.toList.drop off).take (n*z)).length=n*z:=by rw[hrep.length];exact hlen
  refine⟨h0,f3,f2,mE f2 (by rw[f1];exact hrep) (fun j _=>hb _) hcell,_,hlv,by rw[f1];exact hrep,hcell⟩
 ·cases h
theorem I4 (hs:Sim E g σ a w) {ow:Value->Nat->Nat->Prop} {x y:AV} {v:Value} (h:lN σ.sh x=some y) (hb:gR false y=true) (r:aQ (cx E g σ w) ow x v) :
  aQ (cx0 g.β g.bs (fun b _=>b < w.heap.size) w 0) aS (fE y) v:=by
 have hgen:∀ {ow:Value->Nat->Nat->Prop} {x:AV} {v:Value},gR false x=true->aQ (cx E g σ w) ow x v->aQ (cx0 g.β g.bs (fun b _=>b < w.heap.size) w 0) aS (fE x) v:=by
  intro ow x v hb r
  have:=yA (q:=false) (p:=false) (n:=0) (fun h=>by cases h) hb r
  exact aQ.mono (c:=cx0 g.β g.bs (SS E g w) w 0) (c':=cx0 g.β g.bs (fun b _=>b < w.heap.size) w 0) ⟨fun b n h=>⟨SS.lt hs h,rfl⟩,Nat.le_refl _,fun _ _=>rfl,fun _ _=>rfl,fun s hs=>hs.elim⟩ _ _ (fun _ _ _ h=>h) this
 by_cases hss:∃ so off n z,x=.ss so off n z
 ·obtain⟨so,off,n,z,rfl⟩:=hss
  simp only[lN] at h;obtain⟨cells,h1,h2⟩:=Option.bind_eq_some_iff.1 h;obtain⟨l,h3,h4⟩:=Option.map_eq_some_iff.1 h2;subst h4;obtain⟨e0,cp,rfl,e2,e3⟩:so < σ.sh.length/\∃ cp,v=.slice (some ⟨g.β so,off,none⟩) n cp/\n<=cp/\ssz off cp z (g.bs so):=r;have hlt:=hs.shrlt so e0;show aF (fun b _=>b < w.heap.size) w (.sl .no z l) _;simp only[aF];by_cases hn0:n=0
  ·have hl:l.length=0:=by
    unfold dD at h3
    split at h3
    ·cases h3;subst hn0;simp [dV]
    ·cases h3
   have hl':=eq_nil_of_length_eq_zero hl;exact⟨_,cp,by rw[hl,hn0],by omega,by simp,by simp,.inl hl'⟩
  ·have hd:cells≠aZ/\cR cells=true:=by
    have hc:0 < z/\off+n*z<=cells.length/\((cells.drop off).take (n*z)).all (fun x=>cD (aI x))=true:=by
     unfold dD at h3
     split at h3
     ·assumption
     ·cases h3
    obtain⟨hz,hlen,hall⟩:=hc;have hpos:0 < n*z:=Nat.mul_pos (by omega) hz;have key:∀ y,cells=[y]->cD (aI y)=true:=by
     rintro y rfl
     have:off=0/\n*z=1:=by simp at hlen;omega
     obtain⟨rfl,h1⟩:=this;rw[h1] at hall;simpa using hall
    refine⟨fun e=>?_,?_⟩
    ·have:=key _ e;simp [aI,cD] at this
    ·unfold cR
     split
     ·have:=key _ rfl;simp [aI,cD] at this
     ·have:=key _ rfl;simp [aI,cD] at this
     ·rfl
   obtain⟨_,hob,_⟩:=hs.shr so cells h1 hd.1;obtain⟨_,r1,r2,r3,_⟩:=tP (S':=fun b _=>b < w.heap.size) h3 (hob hd.2) (fun b' n h=>⟨SS.lt hs h,rfl⟩) (fun _=>hlt);exact⟨_,cp,by rw[r1],by rw[r1];exact e2,by simp,by simp,.inr ⟨_,_,rfl,r3⟩⟩
 ·have hxy:y=x:=by
   unfold lN at h
   split at h
   ·rename_i so off n z
    exact absurd ⟨so,off,n,z,rfl⟩ hss
   ·cases h;rfl
  subst hxy;exact hgen hb r
theorem yS {sh:LL}:∀ {xs ys:List AV},kJ sh xs=some ys->ys.length=xs.length/\∀ (i:Nat) (x:AV),xs[i]?=some x->∃ y,ys[i]?=some y/\lN sh x=some y
 | [],ys,h=>by simp only[kJ,Option.some.injEq] at h;subst h;exact⟨rfl,fun i x hx=>by simp at hx⟩
 | x :: xs,ys,h=>by
  simp only[kJ] at h
  split at h
  ·rename_i y ys' h1 h2
   cases h;obtain⟨h3,h4⟩:=yS h2;refine⟨by simp [h3],fun i u hu=>?_⟩
   cases i with
   | zero=>simp at hu;subst hu;exact⟨y,rfl,h1⟩
   | succ i=>simpa using h4 i u (by simpa using hu)
  ·cases h
theorem LG {c c':Cx} {x:AV} {v:Value} (h:uH x=true) (r:aQ c aS x v):aQ c' aS x v/\aI x=x:=by
 have key:∀ (y:AV) (u:Value),bC y=true->aR c y u->aR c' y u:=by
  intro y u hy hr
  cases y<;>simp [bC] at hy
  ·exact hr
  ·exact hr
  ·exact hr
  ·exact hr
 cases x with
 | tup l =>
  refine⟨?_,rfl⟩;obtain⟨vs,h1,h2⟩:=r;refine⟨vs,h1,?_⟩;simp only[uH,all_eq_true] at h;generalize vs.toList=us at h2
  clear h1
  induction l generalizing us with
  | nil=>cases us with
   | nil=>trivial
   | cons=>simp [aL] at h2
  | cons x l ih=>cases us with
   | nil=>simp [aL] at h2
   | cons u us=>exact⟨key _ _ (h x (by simp)) h2.1,ih (fun y hy=>h y (by simp [hy])) us h2.2⟩
 | int=>exact⟨r,rfl⟩
 | bool=>exact⟨r,rfl⟩
 | str=>exact⟨r,rfl⟩
 | nilp=>exact⟨r,rfl⟩
 | _=>simp [uH,bC] at h
theorem xU (hs:Sim E g σ a w) (hd:∀ d,o.dst=some d->d < E.nt) {G:aO} (hG:iA P G) {f:FuncId} {vs:Array Value} (hrun:yM P f->(execOp a.eval o).run P w=.ok (.enter f vs) w) (hrunx:∀ v w',(callFunc f vs).run P w=.ok (.value v) w'->(execOp a.eval o).run P w=.ok (.value v) w')
  {ml:ML} {xs:List AV} {m':MV} {v:AV} (hc:iT G ml f xs (rdm σ ml)=some (v,m'))
  (hlen:vs.size=xs.length) (hargs:∀ (i:Nat) (x:AV) (u:Value),xs[i]?=some x->vs[i]?=some u->∃ ow,aQ (cx E g σ w) ow x u) :
  o.wp P a w (aU E (put (wrm σ m' ml) o.dst v)) Q:=by
 unfold iT at hc
 split at hc
 ·obtain⟨ys,hys,hc⟩:=Option.bind_eq_some_iff.1 hc
  split at hc
  ·rename_i hall
   obtain⟨⟨r,sh'⟩,hr,he⟩:=Option.bind_eq_some_iff.1 hc
   split at he
   ·rename_i hemp
    cases he;rw[Bool.and_eq_true] at hemp
    have:sh'=[]:=by simpa using hemp.1
    subst this;have hent:=X9 (w:=w) (β:=g.β) (bs:=g.bs) (S:=fun b _=>b < w.heap.size) (fun b n hb=>hb) hs.globOK';obtain⟨l1,l2⟩:=yS hys;have hrep:aL (aQ (cx0 g.β g.bs (fun b _=>b < w.heap.size) w 0) aS) (ys.map fE) vs.toList:=by
     refine aL.of_get (by simp;omega) fun i x u hx hu=>?_
     rw[getElem?_map] at hx;obtain⟨y,hy,rfl⟩:=Option.map_eq_some_iff.1 hx;have hi:i < xs.length:=by
      have:=(List.getElem?_eq_some_iff.1 hy).1
      omega
     obtain⟨y',h3,h4⟩:=l2 i _ (getElem?_eq_getElem hi);rw[hy] at h3;cases h3;obtain⟨ow,h5⟩:=hargs i _ u (getElem?_eq_getElem hi) (by simpa using hu);rw[all_eq_true] at hall;exact I4 hs h4 (hall y (mem_iff_getElem?.2 ⟨i,hy⟩)) h5
    have hfin:∀ (u:Value) (w':World) kd' β' bs',After (fun b _=>b < w.heap.size) (fun _=>none) g.β g.bs w [] [] r u kd' β' bs' w'->aU E (put (wrm σ (rdm σ .sh) .sh) o.dst r) (a.put o.dst u) w':=by
     intro u w' kd' β' bs' haf;obtain⟨g',h1,h2,h3⟩:=hs.afterP haf;obtain⟨h4,h5⟩:=LG (c':=cx E g' σ w') hemp.2 haf.rep;show aU E _ (a.put o.dst u) w';cases hdd:o.dst with
     | none=>exact⟨g',h1⟩
     | some d=>exact⟨g',h1.put_ (hd d hdd) (h4.noown h5)⟩
    unfold Oper.wp;rcases hG _ _ _ _ _ hr with ⟨hreal,hsem⟩ | hx
    ·rw[hrun hreal]
     refine Calls.mono (hsem _ g.β g.bs _ _ w vs hent hrep) ?_
     rintro e w' ⟨u,kd',β',bs',rfl,haf⟩
     exact hfin _ _ _ _ _ haf
    ·obtain⟨u,w',kd',β',bs',hrn,haf⟩:=hx _ g.β g.bs _ _ w vs hent hrep
     rw[hrunx _ _ hrn];exact hfin _ _ _ _ _ haf
   ·cases he
  ·cases hc
 ·cases hc
theorem wS:∀ {xs:List Operand} {rs:List AR},cC xs rs=true->xs.length=rs.length/\∀ (i:Nat) (x:Operand) (r:AR),xs[i]?=some x->rs[i]?=some r->okR x r=true
 | [],rs,h=>by have:=r8 h;subst this;exact⟨rfl,fun i x r hx=>by simp at hx⟩
 | x :: xs,rs,h=>by
  obtain⟨r,rs',rfl,h1,h2⟩:=oI h;obtain⟨h3,h4⟩:=wS h2;refine⟨by simp [h3],fun i y s hy hs=>?_⟩
  cases i with
  | zero=>simp at hy hs;subst hy;subst hs;exact h1
  | succ i=>exact h4 i y s (by simpa using hy) (by simpa using hs)
theorem I1 (hs:Sim E g σ a w) (hd:∀ d,o.dst=some d->d < E.nt) {G:aO} (hG:iA P G) {f:FuncId} {xs:Array Operand} {ts:Array TypeId} {rs:List AR} (hop:o.op=.call { callee:=.value (.func f),args:=xs,argTypes:=ts })
  (hr:cC xs.toList rs=true) {ml:ML} {m':MV} {v:AV} (hc:iT G ml f (rs.map (ev σ.fr)) (rdm σ ml)=some (v,m')) :
  o.wp P a w (aU E (put (wrm σ m' ml) o.dst v)) Q:=by
 obtain⟨k1,k2⟩:=wS hr;refine xU hs hd hG (vs:=xs.map a.eval) ?_ (fun v w' h=>by simp [execOp,hop,resolve,Deferred.ofValue,Act.eval,invoke,h]) hc (by simp at k1 ⊢;omega) ?_
 ·intro hreal
  have:=iI (P:=P) (w:=w) hreal (xs.map a.eval)
  simp [execOp,hop,resolve,Deferred.ofValue,Act.eval,invoke,this]
 ·intro i x u hx hu
  rw[getElem?_map] at hx;obtain⟨r,hr1,rfl⟩:=Option.map_eq_some_iff.1 hx;rw[Array.getElem?_map] at hu;obtain⟨y,hy1,rfl⟩:=Option.map_eq_some_iff.1 hu;obtain⟨ow,h1,_⟩:=hs.rdT (k2 i y r (by simpa using hy1) hr1);exact⟨ow,h1⟩
theorem EG (hs:Sim E g σ a w) (hd:∀ d,o.dst=some d->d < E.nt) {G:aO} (hG:iA P G) {t:Tmp} {f:FuncId} {caps:List AV} {xs:Array Operand} {ts:Array TypeId} {r:AR} {rs:List AR} (hop:o.op=.call { callee:=.value (.tmp t),args:=xs,argTypes:=ts })
  (hf:okR (.tmp t) r=true) (hr:cC xs.toList rs=true) (he:ev σ.fr r=.fn f caps) {ml:ML} {m':MV} {v:AV} (hc:iT G ml f (rs.map (ev σ.fr)++caps) (rdm σ ml)=some (v,m')) :
  o.wp P a w (aU E (put (wrm σ m' ml) o.dst v)) Q:=by
 obtain⟨cv,h1,h2⟩:=hs.rd hf he;obtain⟨k1,k2⟩:=wS hr;have hcl:=h2.length;refine xU hs hd hG (vs:=xs.map a.eval++cv) ?_ (fun v w' h=>by simp [execOp,hop,resolve,Deferred.ofValue,h1,invoke,h]) hc (by simp at k1 hcl ⊢;omega) ?_
 ·intro hreal
  have:=iI (P:=P) (w:=w) hreal (xs.map a.eval++cv)
  simp [execOp,hop,resolve,Deferred.ofValue,h1,invoke,this]
 ·intro i x u hx hu
  rw[getElem?_append] at hx;rw[Array.getElem?_append] at hu
  split at hx
  ·rename_i hi
   rw[if_pos (by simp at k1 hi ⊢;omega)] at hu;rw[getElem?_map] at hx;obtain⟨r,hr1,rfl⟩:=Option.map_eq_some_iff.1 hx;rw[Array.getElem?_map] at hu;obtain⟨y,hy1,rfl⟩:=Option.map_eq_some_iff.1 hu;obtain⟨ow,h1,_⟩:=hs.rdT (k2 i y r (by simpa using hy1) hr1);exact⟨ow,h1⟩
  ·rename_i hi
   rw[if_neg (by simp at k1 hi ⊢;omega)] at hu;obtain⟨u',h5,h6⟩:=h2.get hx
   have:(xs.map a.eval).size=(rs.map (ev σ.fr)).length:=by simp at k1 ⊢;omega
   rw[this] at hu;rw[Array.getElem?_toList] at h5;rw[h5] at hu;cases hu;exact⟨aS,N4 h6⟩
end
end Go.Av
