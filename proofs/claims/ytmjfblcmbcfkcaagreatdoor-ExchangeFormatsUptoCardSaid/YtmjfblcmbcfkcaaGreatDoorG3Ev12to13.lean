/- A part of the frame (Ev12 Ev13). No conditions. -/
import Derived.Test.YtmjfblcmbcfkcaaGreatDoorG3Ev12ato12d
import Derived.Tactics
open List
set_option linter.unusedSimpArgs false
set_option linter.unusedVariables false
set_option linter.unusedSectionVars false
set_option maxRecDepth 100000
set_option maxHeartbeats 16000000
namespace Go.Av
variable [Gtab]
open Go.RowKit
section
variable {P:Program} {E:Env} {g g':Gh} {σ σ' σ1:AS} {a:Act} {w w':World} {o:Oper} {ao:AOper} {Q:Exit->Act->World->Prop}
theorem aY (h:cX ao=true):ao.ml=.none/\ao.dem=none:=by
 unfold cX at h;simpa using h
theorem ND {G:aM} (h:cG G ao σ=some σ') (hg:eT σ.fr ao.guard=some true) :
  ∃ v m,kf G (ao.dst.getD 0) ao.ml ao.k (ao.args.map (ev σ.fr)) (rdm σ ao.ml)=some (v,m)/\σ'=put (dE (wrm σ m ao.ml) ao.dem) ao.dst v:=by
 unfold cG at h;rw[hg] at h;simp only at h
 split at h
 ·rename_i v m hk
  cases h;exact⟨v,m,hk,rfl⟩
 ·cases h
theorem N3 (hs:Sim E g σ a w) (hd:∀ d,o.dst=some d->d < E.nt) {t:TypeId} {x:Operand} {r:AR} {fi:Nat} (hop:o.op=.field t x fi)
  (hx:okR x r=true) {fs:Array Field} {f:Field} {agg:Bool} {n:Nat} (ht:P.underlying t=some (.struct fs)) (hf:fs[fi]?=some f) (hsz:eX P f.type agg n=true) {l:List AV} {v:AV}
  (he:ev σ.fr r=.agg l) (hv:fU agg f.offset n l=some v) :
  o.wp P a w (aT E (put σ o.dst v)) Q:=by
 obtain⟨cs,h1,h2⟩:=hs.rd hx he;obtain⟨ha,hn⟩:=i8 hsz;obtain⟨h3,h4,h5⟩:=sI (c:=cx E g σ w) hv ((h2.drop f.offset).take n);rcases h4 with ⟨rfl,h4⟩ | ⟨rfl,y,hy,h4⟩
 ·refine aG hs hd (val:=.agg (cs.extract f.offset (f.offset+n))) ?_ h5 ?_
  ·simp [execOp,hop,h1,Instr.field,run_underlying ht,hf,asAgg,part,ha,hn]
  ·have:((cs.toList.drop f.offset).take n).toArray=cs.extract f.offset (f.offset+n):=by
    apply Array.ext';simp [extract_eq_take_drop]
   rw[this] at h4;exact h4
 ·have hy':cs[f.offset]?=some y:=by
   have h0:((cs.toList.drop f.offset).take n)[0]?=some y:=by rw[hy];rfl
   rw[getElem?_take] at h0
   split at h0
   ·rw[getElem?_drop] at h0;simpa using h0
   ·cases h0
  refine aG hs hd (val:=y) ?_ h5 h4;simp [execOp,hop,h1,Instr.field,run_underlying ht,hf,asAgg,part,ha,hy']
theorem oX {α:Type} {xs:Array α} (h:xs.size=2):∃ x y,xs=#[x,y]:=by
 obtain⟨l⟩:=xs
 match l,h with
 | [x,y],_=>exact⟨x,y,rfl⟩
theorem lR {u:AV} {d i:Nat} (h:dW (some u) d=some i):∃ k n,u=.int k n:=by
 cases u<;>simp [dW] at h
 exact⟨_,_,rfl⟩
theorem hZ {str:Bool} {z:Nat} {x v:AV} {lo hi:Option AV} (h:bJ str z x lo hi=some v):(∀ u,lo=some u->∃ k n,u=.int k n)/\(∀ u,hi=some u->∃ k n,u=.int k n):=by
 unfold bJ at h
 split at h
 all_goals first | (cases h;done) | skip
 all_goals
  split at h
  ·rename_i h1 h2
   exact⟨fun u e=>lR (by rw[<- e];exact h1),fun u e=>lR (by rw[<- e];exact h2)⟩
  ·cases h
theorem uZ {z:Nat} {sh:LL} {x v h:AV} {lo:Option AV} (hv:HC z sh x lo h=some v):(∀ u,lo=some u->∃ k n,u=.int k n)/\∃ k n,h=.int k n:=by
 unfold HC at hv
 split at hv
 ·split at hv
  ·rename_i h1 h2 _
   exact⟨fun u e=>lR (by rw[<- e];exact h1),lR h2⟩
  ·cases hv
 ·exact⟨(hZ hv).1,(hZ hv).2 _ rfl⟩
theorem qK (σ:AS) (ml:ML):wrm σ (rdm σ ml) ml=σ:=by
 cases ml with
 | none=>rfl
 | sh=>rfl
 | lo s =>
  show { σ with lo:=upd σ.lo s (σ.lo s) }=σ
  have:upd σ.lo s (σ.lo s)=σ.lo:=by funext t;unfold upd;split<;>simp_all
  rw[this]
theorem UY (hs:Sim E g σ a w) (hd:∀ d,o.dst=some d->d < E.nt) {x:Operand} {r:AR} {t e:TypeId} {ts:Array TypeId} (hop:o.op=.call { callee:=.builtin .len,args:=#[x],argTypes:=ts })
  (hx:okR x r=true) (hts:ts[0]?=some t) (ht:P.underlying t=some (.slice e)) {so off n z:Nat} (hv:ev σ.fr r=.ss so off n z) :
  o.wp P a w (aT E (put σ o.dst (.int .i64 (n:Int)))) Q:=by
 obtain⟨_,cp,h1,_⟩:=hs.rd hx hv;refine aG hs hd (val:=.int .i64 (n:Int)) ?_ rfl rfl;simp [execOp,hop,resolve,invoke,builtin,h1,Builtin.len_,hts,run_underlying ht,goInt]
theorem zBS (hs:Sim E g σ a w) (hd:∀ d,o.dst=some d->d < E.nt) {t e:TypeId} {x y:Operand} {rx ry:AR} (hop:o.op=.indexAddr t x y)
  (hx:okR x rx=true) (hy:okR y ry=true) (ht:P.underlying t=some (.slice e)) {z:Nat} (hz:aU P e=some z)
  {so off n:Nat} {k:IntKind} {i:Int} (h1:ev σ.fr rx=.ss so off n z) (h2:ev σ.fr ry=.int k i) (h0:0<=i) (hlt:i < n) :
  o.wp P a w (aT E (put σ o.dst (.ptr so (off+i.toNat*z)))) Q:=by
 obtain⟨inf,hi,hin⟩:=dQ hz;obtain⟨e0,cp,e1,e2,_⟩:=hs.rd hx h1;have e3:=hs.rdNat hy h2;refine aG hs hd (val:=.pointer (some ⟨(cx E g σ w).β so,off+i.toNat*z,none⟩)) ?_ rfl ⟨e0,rfl⟩;simp [execOp,hop,e1,e3,Instr.indexAt,asIntOf,run_underlying ht,h0,hlt,sizeOf,typeInfo,hi,hin,dC]
theorem BM {sh:LL} {o:Nat} {l:LL} (h:j6 sh o=some l):sh[o]?=some [.mapv l]:=by
 unfold j6 at h
 split at h
 ·rename_i m hm;cases h;exact hm
 ·cases h
set_option maxHeartbeats 2000000 in
theorem DR {G:aM} (hG:gQ P G) (hs:Sim E g σ a w) (hd:∀ d,o.dst=some d->d < E.nt) (hdst:ao.dst=o.dst) (hok:okK P o ao=true) {v:AV} {m:MV}
  (hk:kf G (ao.dst.getD 0) ao.ml ao.k (ao.args.map (ev σ.fr)) (rdm σ ao.ml)=some (v,m)) :
  o.wp P a w (aT E (put (dE (wrm σ m ao.ml) ao.dem) o.dst v)) Q:=by
 rw[hdst] at hk;unfold okK at hok
 split at hok
 ·
  rename_i x hop hkk;simp only[Bool.and_eq_true] at hok;obtain⟨r,hr,hr'⟩:=gA hok.1;obtain⟨hml,hdem⟩:=aY hok.2;rw[hkk,hr,hml] at hk;simp only[map_cons,map_nil,kf,kf0,Option.some.injEq,Prod.mk.injEq] at hk;obtain⟨rfl,rfl⟩:=hk;rw[hml,hdem];exact I8 hs hd (.inl hop) hr'
 ·rename_i x hop hkk
  simp only[Bool.and_eq_true] at hok;obtain⟨r,hr,hr'⟩:=gA hok.1;obtain⟨hml,hdem⟩:=aY hok.2;rw[hkk,hr,hml] at hk;simp only[map_cons,map_nil,kf,kf0,Option.some.injEq,Prod.mk.injEq] at hk;obtain⟨rfl,rfl⟩:=hk;rw[hml,hdem];exact I8 hs hd (.inr hop) hr'
 ·rename_i x hop hkk
  simp only[Bool.and_eq_true] at hok;obtain⟨r,hr,hr'⟩:=gA hok.1.1;have hml:ao.ml=.none:=by simpa using hok.1.2
  have hdd:=hok.2;rw[hr] at hdd
  split at hdd
  ·rename_i s hs1
   cases hs1;have hdem:ao.dem=some s:=by simpa using hdd
   rw[hkk,hr,hml] at hk;simp only[map_cons,map_nil,kf,kf0,Option.some.injEq,Prod.mk.injEq] at hk;obtain⟨rfl,rfl⟩:=hk;rw[hml,hdem];exact EN hs hd (.inl hop) hr'
  ·cases hdd
 ·rename_i x hop hkk
  simp only[Bool.and_eq_true] at hok;obtain⟨r,hr,hr'⟩:=gA hok.1.1;have hml:ao.ml=.none:=by simpa using hok.1.2
  have hdd:=hok.2;rw[hr] at hdd
  split at hdd
  ·rename_i s hs1
   cases hs1;have hdem:ao.dem=some s:=by simpa using hdd
   rw[hkk,hr,hml] at hk;simp only[map_cons,map_nil,kf,kf0,Option.some.injEq,Prod.mk.injEq] at hk;obtain⟨rfl,rfl⟩:=hk;rw[hml,hdem];exact EN hs hd (.inr hop) hr'
  ·cases hdd
 ·
  rename_i c x y hop hkk;simp only[Bool.and_eq_true] at hok;obtain⟨rc,rx,ry,hr,h1,h2,h3⟩:=xU hok.1;obtain⟨hml,hdem⟩:=aY hok.2;rw[hkk,hr,hml] at hk;simp only[map_cons,map_nil] at hk;generalize hvc:ev σ.fr rc=vc at hk
  cases vc<;>simp only[kf,kf0,reduceCtorEq,Option.some.injEq,Prod.mk.injEq] at hk
  obtain⟨rfl,rfl⟩:=hk;rw[hml,hdem];exact I6 hs hd hop h1 h2 h3 hvc
 ·
  rename_i e zero hop hkk;simp only[Bool.and_eq_true] at hok;have hr:=qY hok.1.1.1;have hdem:ao.dem=none:=by simpa using hok.1.2
  obtain⟨d,hdd⟩:=Option.isSome_iff_exists.1 hok.2;rw[hdst] at hdd;rw[hkk,hr,hdd] at hk;simp only[map_nil,kf,kf0,Option.getD_some] at hk
  split at hk
  ·rename_i hc
   obtain⟨hml,hn⟩:=hc;simp only[Option.some.injEq,Prod.mk.injEq] at hk;obtain⟨rfl,rfl⟩:=hk;rw[hml,hdem];rw[hml] at hn;exact HA hs hdd (hd d hdd) hop hok.1.1.2 (by simpa [rdm] using hn)
  ·cases hk
 ·rename_i e zero hop hkk
  simp only[Bool.and_eq_true] at hok;have hr:=qY hok.1.1.1;have hdem:ao.dem=none:=by simpa using hok.1.2
  obtain⟨d,hdd⟩:=Option.isSome_iff_exists.1 hok.2;rw[hdst] at hdd;rw[hkk,hr,hdd] at hk;simp only[map_nil,kf,kf0] at hk
  split at hk
  ·rename_i hml
   simp only[Option.some.injEq,Prod.mk.injEq] at hk;obtain⟨rfl,rfl⟩:=hk;rw[hml,hdem];exact C5 hs hdd (hd d hdd) hop hok.1.1.2
  ·cases hk
 ·
  rename_i e x n hop hkk;simp only[Bool.and_eq_true] at hok;obtain⟨r,hr,hr'⟩:=gA hok.1.1;have hdem:ao.dem=none:=by simpa using hok.1.2
  obtain⟨d,hdd⟩:=Option.isSome_iff_exists.1 hok.2;rw[hdst] at hdd;rw[hkk,hr,hdd] at hk;simp only[map_cons,map_nil,kf,kf0,Option.getD_some] at hk
  split at hk
  ·rename_i hc
   obtain⟨hml,hn⟩:=hc;obtain⟨cs,hcs,he⟩:=Option.map_eq_some_iff.1 hk;simp only[Prod.mk.injEq] at he;obtain⟨rfl,rfl⟩:=he;rw[hml,hdem];rw[hml] at hn;exact N8 hs hdd (hd d hdd) hop hr' hcs (by simpa [rdm] using hn)
  ·cases hk
 ·rename_i e x n hop hkk
  simp only[Bool.and_eq_true] at hok;obtain⟨r,hr,hr'⟩:=gA hok.1.1;have hdem:ao.dem=none:=by simpa using hok.1.2
  obtain⟨d,hdd⟩:=Option.isSome_iff_exists.1 hok.2;rw[hdst] at hdd;rw[hkk,hr,hdd] at hk;simp only[map_cons,map_nil,kf,kf0] at hk
  split at hk
  ·rename_i hml
   obtain⟨cs,hcs,he⟩:=Option.map_eq_some_iff.1 hk;simp only[Prod.mk.injEq] at he;obtain⟨rfl,rfl⟩:=he;rw[hml,hdem];exact JE hs hdd (hd d hdd) hop hr' hcs
  ·cases hk
 ·
  rename_i t parts zero pl hop hkk;simp only[Bool.and_eq_true] at hok;obtain⟨⟨⟨⟨h1,h2⟩,h3⟩,h4⟩,h5⟩:=hok;obtain⟨hml,hdem⟩:=aY h3;rw[hkk,hml] at hk;simp only[kf,kf0] at hk;obtain⟨cs,hcs,he⟩:=Option.map_eq_some_iff.1 hk;simp only[Prod.mk.injEq] at he;obtain⟨rfl,rfl⟩:=he;rw[hml,hdem];exact G7 hs hd hop h1 h2 h4 h5 hcs
 ·
  rename_i t parts zero pl hop hkk;simp only[Bool.and_eq_true] at hok;obtain⟨⟨⟨⟨h1,h2⟩,h3⟩,h4⟩,h5⟩:=hok;obtain⟨hml,hdem⟩:=aY h3;rw[hkk,hml] at hk;simp only[kf,kf0] at hk;obtain⟨cs,hcs,he⟩:=Option.map_eq_some_iff.1 hk;simp only[Prod.mk.injEq] at he;obtain⟨rfl,rfl⟩:=he;rw[hml,hdem];exact C4 hs hd hop h1 h2 h4 h5 hcs
 ·
  rename_i t len parts z zero len' pl hop hkk;simp only[Bool.and_eq_true] at hok;obtain⟨⟨⟨⟨h1,h2⟩,h3⟩,h4⟩,h5⟩:=hok;obtain⟨hml,hdem⟩:=aY h2;have hlen:len=len':=by simpa using h3
  have hpl:pl=parts.toList.map (·.1):=by simpa using h4
  subst hlen;subst hpl
  split at h5
  ·rename_i e hu
   simp only[Bool.and_eq_true,decide_eq_true_eq] at h5;obtain⟨⟨⟨h6,h7⟩,h8⟩,h9⟩:=h5;rw[hkk,hml] at hk;simp only[kf,kf0] at hk;obtain⟨cs,hcs,he⟩:=Option.map_eq_some_iff.1 hk;simp only[Prod.mk.injEq] at he;obtain⟨rfl,rfl⟩:=he;rw[hml,hdem];have hsz:aU P e=some z:=by simpa using h6
   have hzl:zero.length=z:=by
    obtain⟨i,_,i1,_,_,i2⟩:=iZ h7;obtain⟨i',i3,i4⟩:=dQ hsz;rw[i1] at i3;cases i3;omega
   exact NQ hs hd hop h1 hu h7 hsz h9 h8 hcs (by rw[rL hcs,eJ,hzl])
  ·cases h5
 ·
  rename_i t x agg n hop hkk;simp only[Bool.and_eq_true] at hok;obtain⟨r,hr,hr'⟩:=gA hok.1.1;have hdem:ao.dem=none:=by simpa using hok.1.2
  rw[hkk,hr] at hk;simp only[map_cons,map_nil,kf,kf0] at hk;rw[hdem]
  split at hk
  ·rename_i s off he
   split at hk
   ·rename_i hml
    rw[hml] at hk ⊢;obtain⟨cells,hc,hk⟩:=Option.bind_eq_some_iff.1 hk;obtain⟨v',hv',he'⟩:=Option.map_eq_some_iff.1 hk;simp only[Prod.mk.injEq] at he';obtain⟨rfl,rfl⟩:=he';have hsame:wrm σ (rdm σ (.lo s)) (.lo s)=σ:=by
     show { σ with lo:=upd σ.lo s (σ.lo s) }=σ
     have:upd σ.lo s (σ.lo s)=σ.lo:=by funext t;unfold upd;split<;>simp_all
     rw[this]
    rw[hsame];exact NZ hs hd hop hr' hok.2 he hc hv'
   ·cases hk
  ·rename_i s off he
   split at hk
   ·rename_i hml
    rw[hml] at hk ⊢;obtain⟨cells,hc,hk⟩:=Option.bind_eq_some_iff.1 hk;obtain⟨v',hv',he'⟩:=Option.map_eq_some_iff.1 hk;simp only[Prod.mk.injEq] at he';obtain⟨rfl,rfl⟩:=he';exact EO hs hd hop hr' hok.2 he hc hv'
   ·cases hk
  ·rename_i cells he
   obtain⟨v',hv',he'⟩:=Option.map_eq_some_iff.1 hk;simp only[Prod.mk.injEq] at he';obtain⟨rfl,rfl⟩:=he';have hsame:wrm σ (rdm σ ao.ml) ao.ml=σ:=by
    cases ao.ml with
    | none=>rfl
    | sh=>rfl
    | lo s =>
     show { σ with lo:=upd σ.lo s (σ.lo s) }=σ
     have:upd σ.lo s (σ.lo s)=σ.lo:=by funext t;unfold upd;split<;>simp_all
     rw[this]
   rw[hsame];exact N0 hs hd hop hr' hok.2 he hv'
  ·cases hk
 ·
  rename_i t x y n hop hkk;simp only[Bool.and_eq_true] at hok;obtain⟨⟨⟨h1,h2⟩,h3⟩,h4⟩:=hok;obtain⟨rx,ry,hr,hx,hy⟩:=fV h1;have hdem:ao.dem=none:=by simpa using h2
  have hdn:o.dst=none:=by rw[<- hdst];simpa using h3
  have hsz:aU P t=some n:=by simpa using h4
  rw[hkk,hr] at hk;simp only[map_cons,map_nil,kf,kf0] at hk;rw[hdem,hdn]
  split at hk
  ·rename_i s off he
   split at hk
   ·rename_i hml
    rw[hml] at hk ⊢;obtain⟨cells,hc,hk⟩:=Option.bind_eq_some_iff.1 hk;obtain⟨cs,hcs,hk⟩:=Option.bind_eq_some_iff.1 hk;obtain⟨c',hc',he'⟩:=Option.map_eq_some_iff.1 hk;simp only[Prod.mk.injEq] at he';obtain⟨rfl,rfl⟩:=he';exact NH hs hop hdn hx hy hsz he hc hcs hc'
   ·cases hk
  ·rename_i s off he
   split at hk
   ·rename_i hml
    rw[hml] at hk ⊢;obtain⟨cells,hc,hk⟩:=Option.bind_eq_some_iff.1 hk
    split at hk
    ·rename_i hbk
     obtain⟨cs,hcs,hk⟩:=Option.bind_eq_some_iff.1 hk;obtain⟨c',hc',he'⟩:=Option.map_eq_some_iff.1 hk;simp only[Prod.mk.injEq] at he';obtain⟨rfl,rfl⟩:=he';exact NG hs hop hdn hx hy hsz he hc hbk hcs hc'
    ·cases hk
   ·cases hk
  ·cases hk
 ·
  rename_i x hop hkk;simp only[Bool.and_eq_true] at hok;obtain⟨r,hr,hr'⟩:=gA hok.1;obtain⟨hml,hdem⟩:=aY hok.2;rw[hkk,hr,hml] at hk;simp only[map_cons,map_nil,kf,kf0] at hk;rw[hml,hdem];have hfin:(∃ i j,ev σ.fr r=.ptr i j)\/(∃ i j,ev σ.fr r=.loc i j)\/(∃ l,ev σ.fr r=.ip l):=by
   split at hk
   ·rename_i i j he;exact .inl ⟨i,j,he⟩
   ·rename_i i j he;exact .inr (.inl ⟨i,j,he⟩)
   ·rename_i l he;exact .inr (.inr ⟨l,he⟩)
   ·cases hk
  have hv:v=ev σ.fr r/\m=rdm σ .none:=by
   split at hk
   all_goals first | (simp only[Option.some.injEq,Prod.mk.injEq] at hk;exact⟨hk.1.symm,hk.2.symm⟩) | cases hk
  obtain⟨rfl,rfl⟩:=hv;exact I7 hs hd hop hr' hfin
 ·
  rename_i op t x y t' op' hop hkk;simp only[Bool.and_eq_true] at hok;obtain⟨rx,ry,hr,hx,hy⟩:=fV hok.1.1;obtain⟨hml,hdem⟩:=aY hok.1.2;have hop':op=op':=by simpa using hok.2
  subst hop';rw[hkk,hr,hml] at hk;simp only[map_cons,map_nil,kf,kf0] at hk;obtain⟨v',hv',he'⟩:=Option.map_eq_some_iff.1 hk;simp only[Prod.mk.injEq] at he';obtain⟨rfl,rfl⟩:=he';rw[hml,hdem];exact N9 hs hd hop hx hy hv'
 ·
  rename_i op t x y t' ne hop hkk;simp only[Bool.and_eq_true] at hok;obtain⟨⟨⟨h1,h2⟩,h3⟩,h4⟩:=hok;obtain⟨rx,ry,hr,hx,hy⟩:=fV h1;obtain⟨hml,hdem⟩:=aY h2;have ht:P.underlying t=some .bool:=by
   split at h4
   ·assumption
   ·cases h4
  rw[hkk,hr,hml] at hk;simp only[map_cons,map_nil] at hk;generalize hvx:ev σ.fr rx=vx at hk;generalize hvy:ev σ.fr ry=vy at hk
  cases vx<;>cases vy<;>simp only[kf,kf0,reduceCtorEq,Option.some.injEq,Prod.mk.injEq] at hk
  obtain⟨rfl,rfl⟩:=hk;rw[hml,hdem];exact OA hs hd hop h3 ht hx hy hvx hvy
 ·
  rename_i op t x y t' ne ks hop hkk;simp only[Bool.and_eq_true] at hok;obtain⟨⟨⟨h1,h2⟩,h3⟩,h4⟩:=hok;obtain⟨rx,ry,hr,hx,hy⟩:=fV h1;obtain⟨hml,hdem⟩:=aY h2
  split at h4
  ·rename_i fs ht
   simp only[Bool.and_eq_true,Bool.not_eq_true'] at h4;obtain⟨⟨h5,h6⟩,h7⟩:=h4;rw[hkk,hr,hml] at hk;simp only[map_cons,map_nil] at hk;generalize hvx:ev σ.fr rx=vx at hk;generalize hvy:ev σ.fr ry=vy at hk
   cases vx<;>cases vy<;>simp only[kf,kf0,reduceCtorEq] at hk
   obtain⟨r,hr2,he'⟩:=Option.map_eq_some_iff.1 hk;simp only[Prod.mk.injEq] at he';obtain⟨rfl,rfl⟩:=he';rw[hml,hdem];exact NL hs hd hop h3 ht h5 h6 h7 hx hy hvx hvy hr2
  ·cases h4
 ·
  rename_i op t x op' hop hkk;simp only[Bool.and_eq_true] at hok;obtain⟨r,hr,hr'⟩:=gA hok.1.1;obtain⟨hml,hdem⟩:=aY hok.1.2;have hop':op=op':=by simpa using hok.2
  subst hop';rw[hkk,hr,hml] at hk;simp only[map_cons,map_nil] at hk;generalize hvx:ev σ.fr r=vx at hk;rw[hml,hdem]
  cases op<;>cases vx<;>simp only[kf,kf0,reduceCtorEq,Option.some.injEq,Prod.mk.injEq] at hk
  ·obtain⟨rfl,rfl⟩:=hk
   exact NO hs hd hop hr' hvx
  ·obtain⟨rfl,rfl⟩:=hk
   exact NN hs hd hop hr' hvx
 ·
  rename_i t x lo hi str z l h hop hkk;simp only[Bool.and_eq_true] at hok;obtain⟨⟨⟨⟨h1,h2⟩,h3⟩,h4⟩,h5⟩:=hok;obtain⟨hml,hdem⟩:=aY h2;have hty:(∃ e,P.underlying t=some (.slice e)/\str=false/\aU P e=some z)\/(P.underlying t=some .string/\str=true):=by
   split at h5
   ·rename_i e hu
    simp at h5;exact .inl ⟨e,hu,h5.1,h5.2⟩
   ·rename_i hu;exact .inr ⟨hu,h5⟩
   ·cases h5
  have hl:l=lo.isSome:=by simpa using (beq_iff_eq.1 h3).symm
  have hh:h=hi.isSome:=by simpa using (beq_iff_eq.1 h4).symm
  subst hl;subst hh;rw[hkk,hml] at hk;rw[hml,hdem];have hbv:∀ {y:Operand} {r:AR},okR y r=true->(∃ k n,ev σ.fr r=.int k n)->rY (some (ev σ.fr r)) (some (a.eval y)):=by
   rintro y r hy ⟨k,n,hv⟩
   exact AD hs hy hv
  cases lo with
  | none=>cases hi with
   | none =>
    obtain⟨r,hr,hr'⟩:=gA (x:=x) (by simpa using h1);rw[hr] at hk;simp only[map_cons,map_nil,Option.isSome_none,kf,kf0] at hk;obtain⟨v',hv',he'⟩:=Option.map_eq_some_iff.1 hk;simp only[Prod.mk.injEq] at he';obtain⟨rfl,rfl⟩:=he';exact mY hs hd hop hr' hty (lo':=none) (hi':=none) trivial trivial hv'
   | some y =>
    obtain⟨r,ry,hr,hr',hy⟩:=fV (x:=x) (y:=y) (by simpa using h1);rw[hr] at hk;simp only[map_cons,map_nil,Option.isSome_none,Option.isSome_some,kf,kf0] at hk;obtain⟨v',hv',he'⟩:=Option.map_eq_some_iff.1 hk;simp only[Prod.mk.injEq] at he';obtain⟨rfl,rfl⟩:=he';exact mY hs hd hop hr' hty (lo':=none) (hi':=some (ev σ.fr ry)) trivial (hbv hy ((hZ hv').2 _ rfl)) hv'
  | some y=>cases hi with
   | none =>
    obtain⟨r,ry,hr,hr',hy⟩:=fV (x:=x) (y:=y) (by simpa using h1);rw[hr] at hk;simp only[map_cons,map_nil,Option.isSome_none,Option.isSome_some,kf,kf0] at hk;obtain⟨v',hv',he'⟩:=Option.map_eq_some_iff.1 hk;simp only[Prod.mk.injEq] at he';obtain⟨rfl,rfl⟩:=he';exact mY hs hd hop hr' hty (lo':=some (ev σ.fr ry)) (hi':=none) (hbv hy ((hZ hv').1 _ rfl)) trivial hv'
   | some y' =>
    obtain⟨r,ry,ry',hr,hr',hy,hy'⟩:=xU (x:=x) (y:=y) (z:=y') (by simpa using h1);rw[hr] at hk;simp only[map_cons,map_nil,Option.isSome_some,kf,kf0] at hk;obtain⟨v',hv',he'⟩:=Option.map_eq_some_iff.1 hk;simp only[Prod.mk.injEq] at he';obtain⟨rfl,rfl⟩:=he';exact mY hs hd hop hr' hty (lo':=some (ev σ.fr ry)) (hi':=some (ev σ.fr ry')) (hbv hy ((hZ hv').1 _ rfl)) (hbv hy' ((hZ hv').2 _ rfl)) hv'
 ·
  rename_i t x fi off hop hkk;simp only[Bool.and_eq_true] at hok;obtain⟨⟨h1,h2⟩,h3⟩:=hok;obtain⟨r,hr,hr'⟩:=gA h1;obtain⟨hml,hdem⟩:=aY h2
  split at h3
  ·rename_i fs hu
   split at h3
   ·rename_i f hf
    simp only[Bool.and_eq_true] at h3;have hoff:off=f.offset:=by simpa using (beq_iff_eq.1 h3.1).symm
    subst hoff;have h4:=h3.2
    split at h4
    ·rename_i n hn
     have hn0:n≠0:=by simpa using h4
     rw[hkk,hr,hml] at hk;simp only[map_cons,map_nil,kf,kf0] at hk;rw[hml,hdem]
     split at hk<;>rename_i he<;>simp only[reduceCtorEq,Option.some.injEq,Prod.mk.injEq] at hk<;>obtain⟨rfl,rfl⟩:=hk
     ·exact C2 hs hd hop hr' hu hf hn hn0 he (.inl ⟨_,_,rfl,rfl⟩)
     ·exact C2 hs hd hop hr' hu hf hn hn0 he (.inr (.inl ⟨_,_,rfl,rfl⟩))
     ·exact C2 hs hd hop hr' hu hf hn hn0 he (.inr (.inr ⟨_,rfl,rfl⟩))
    ·cases h4
   ·cases h3
  ·cases h3
 ·
  rename_i t x fi agg off n hop hkk;simp only[Bool.and_eq_true] at hok;obtain⟨⟨h1,h2⟩,h3⟩:=hok;obtain⟨r,hr,hr'⟩:=gA h1;obtain⟨hml,hdem⟩:=aY h2
  split at h3
  ·rename_i fs hu
   split at h3
   ·rename_i f hf
    simp only[Bool.and_eq_true] at h3;have hoff:off=f.offset:=by simpa using (beq_iff_eq.1 h3.1).symm
    subst hoff;rw[hkk,hr,hml] at hk;simp only[map_cons,map_nil] at hk;generalize hvx:ev σ.fr r=vx at hk
    cases vx<;>simp only[kf,kf0,reduceCtorEq] at hk
    obtain⟨v',hv',he'⟩:=Option.map_eq_some_iff.1 hk;simp only[Prod.mk.injEq] at he';obtain⟨rfl,rfl⟩:=he';rw[hml,hdem];exact N3 hs hd hop hr' hu hf h3.2 hvx hv'
   ·cases h3
  ·cases h3
 ·
  rename_i t x i z hop hkk;simp only[Bool.and_eq_true] at hok;obtain⟨⟨h1,h2⟩,h3⟩:=hok;obtain⟨rx,ry,hr,hx,hy⟩:=fV h1;obtain⟨hml,hdem⟩:=aY h2
  split at h3
  ·rename_i e hu
   have hz:aU P e=some z:=by simpa using h3
   rw[hkk,hr,hml] at hk;simp only[map_cons,map_nil] at hk;generalize hvx:ev σ.fr rx=vx at hk;generalize hvy:ev σ.fr ry=vy at hk
   cases vx<;>cases vy<;>simp only[kf,kf0,reduceCtorEq] at hk
   ·split at hk
    ·rename_i hc
     obtain⟨rfl,h0⟩:=hc;obtain⟨v',hv',he'⟩:=Option.map_eq_some_iff.1 hk;simp only[Prod.mk.injEq] at he';obtain⟨rfl,rfl⟩:=he';rw[hml,hdem];exact TS hs hd hop hx hy hu hz hvx hvy h0 hv'
    ·cases hk
   ·split at hk
    ·rename_i hc
     obtain⟨rfl,h0,hlt⟩:=hc;simp only[Option.some.injEq,Prod.mk.injEq] at hk;obtain⟨rfl,rfl⟩:=hk;rw[hml,hdem];exact zBS hs hd hop hx hy hu hz hvx hvy h0 hlt
    ·cases hk
  ·cases h3
 ·
  rename_i t x i z len hop hkk;simp only[Bool.and_eq_true] at hok;obtain⟨⟨h1,h2⟩,h3⟩:=hok;obtain⟨rx,ry,hr,hx,hy⟩:=fV h1;obtain⟨hml,hdem⟩:=aY h2
  split at h3
  ·rename_i n e hu
   simp only[Bool.and_eq_true] at h3;have hn:n=len:=by simpa using h3.1
   subst hn;have hz:aU P e=some z:=by simpa using h3.2
   rw[hkk,hr,hml] at hk;simp only[map_cons,map_nil] at hk;generalize hvy:ev σ.fr ry=vy at hk
   cases vy<;>simp only[kf,kf0,reduceCtorEq] at hk
   split at hk
   ·rename_i hc
    obtain⟨h0,hlt⟩:=hc;rw[hml,hdem]
    split at hk<;>rename_i he<;>simp only[reduceCtorEq,Option.some.injEq,Prod.mk.injEq] at hk<;>obtain⟨rfl,rfl⟩:=hk
    ·exact y9 hs hd hop hx hy hu hz he hvy h0 hlt (.inl ⟨_,_,rfl,rfl⟩)
    ·exact y9 hs hd hop hx hy hu hz he hvy h0 hlt (.inr (.inl ⟨_,_,rfl,rfl⟩))
    ·exact y9 hs hd hop hx hy hu hz he hvy h0 hlt (.inr (.inr ⟨_,rfl,rfl⟩))
   ·cases hk
  ·cases h3
 ·
  rename_i t x i hop hkk;simp only[Bool.and_eq_true] at hok;obtain⟨⟨h1,h2⟩,h3⟩:=hok;obtain⟨rx,ry,hr,hx,hy⟩:=fV h1;obtain⟨hml,hdem⟩:=aY h2
  split at h3
  ·rename_i hu
   rw[hkk,hr,hml] at hk;simp only[map_cons,map_nil] at hk;generalize hvx:ev σ.fr rx=vx at hk;generalize hvy:ev σ.fr ry=vy at hk
   cases vx<;>cases vy<;>simp only[kf,kf0,reduceCtorEq] at hk
   split at hk
   ·rename_i h0
    obtain⟨v',hv',he'⟩:=Option.map_eq_some_iff.1 hk;simp only[Prod.mk.injEq] at he';obtain⟨rfl,rfl⟩:=he';rw[hml,hdem];exact N1 hs hd hop hx hy hu hvx hvy h0 hv'
   ·cases hk
  ·cases h3
 ·
  rename_i xs ts str hop hkk;simp only[Bool.and_eq_true] at hok;obtain⟨⟨⟨h1,h2⟩,h3⟩,h4⟩:=hok;obtain⟨x,rfl⟩:∃ x,xs=#[x]:=by
   have:xs.size=1:=by simpa using h3
   exact Array.size_eq_one_iff.1 this
  obtain⟨r,hr,hr'⟩:=gA (x:=x) (by simpa using h1);obtain⟨hml,hdem⟩:=aY h2
  split at h4
  ·rename_i t hts
   rw[hkk,hr,hml] at hk;simp only[map_cons,map_nil] at hk;generalize hvx:ev σ.fr r=vx at hk;rw[hml,hdem]
   split at h4
   ·rename_i hu
    have hst:str=true:=by simpa using h4
    subst hst
    cases vx<;>simp only[kf,kf0,reduceCtorEq,Option.some.injEq,Prod.mk.injEq] at hk
    obtain⟨rfl,rfl⟩:=hk;exact JA hs hd hop hr' hts hu hvx
   ·rename_i e hu
    have hst:str=false:=by simpa using h4
    subst hst
    cases vx<;>simp only[kf,kf0,reduceCtorEq,Option.some.injEq,Prod.mk.injEq] at hk
    ·obtain⟨rfl,rfl⟩:=hk
     exact JB hs hd hop hr' hts hu hvx
    ·obtain⟨rfl,rfl⟩:=hk
     exact UY hs hd hop hr' hts hu hvx
   ·cases h4
  ·cases h4
 ·
  rename_i xs ts hop hkk;simp only[Bool.and_eq_true] at hok;obtain⟨⟨h1,h2⟩,h3⟩:=hok;obtain⟨x,y,rfl⟩:∃ x y,xs=#[x,y]:=by
   have:xs.size=2:=by simpa using h3
   exact oX this
  obtain⟨rx,ry,hr,hx,hy⟩:=fV (x:=x) (y:=y) (by simpa using h1);obtain⟨hml,hdem⟩:=aY h2;rw[hkk,hr,hml] at hk;simp only[map_cons,map_nil] at hk;generalize hvx:ev σ.fr rx=vx at hk;generalize hvy:ev σ.fr ry=vy at hk
  cases vx<;>cases vy<;>simp only[kf,kf0,reduceCtorEq] at hk
  split at hk
  ·rename_i he
   subst he;simp only[Option.some.injEq,Prod.mk.injEq] at hk;obtain⟨rfl,rfl⟩:=hk;rw[hml,hdem];exact I9 hs hd (isMax:=true) hop hx hy hvx hvy
  ·cases hk
 ·
  rename_i xs ts hop hkk;simp only[Bool.and_eq_true] at hok;obtain⟨⟨h1,h2⟩,h3⟩:=hok;obtain⟨x,y,rfl⟩:∃ x y,xs=#[x,y]:=by
   have:xs.size=2:=by simpa using h3
   exact oX this
  obtain⟨rx,ry,hr,hx,hy⟩:=fV (x:=x) (y:=y) (by simpa using h1);obtain⟨hml,hdem⟩:=aY h2;rw[hkk,hr,hml] at hk;simp only[map_cons,map_nil] at hk;generalize hvx:ev σ.fr rx=vx at hk;generalize hvy:ev σ.fr ry=vy at hk
  cases vx<;>cases vy<;>simp only[kf,kf0,reduceCtorEq] at hk
  split at hk
  ·rename_i he
   subst he;simp only[Option.some.injEq,Prod.mk.injEq] at hk;obtain⟨rfl,rfl⟩:=hk;rw[hml,hdem];exact I9 hs hd (isMax:=false) hop hx hy hvx hvy
  ·cases hk
 ·
  rename_i xs ts str z bytes hop hkk;simp only[Bool.and_eq_true] at hok;obtain⟨⟨⟨⟨h1,h2⟩,h3⟩,h4⟩,h5⟩:=hok;obtain⟨x,y,rfl⟩:∃ x y,xs=#[x,y]:=by
   have:xs.size=2:=by simpa using h3
   exact oX this
  obtain⟨rx,ry,hr,hx,hy⟩:=fV (x:=x) (y:=y) (by simpa using h1);have hml:ao.ml=.none:=by simpa using h2
  have hdem:(∃ s,rx=.t s/\ao.dem=some s)\/(∃ v,rx=.c v/\ao.dem=none):=by
   rw[hr] at h4
   split at h4
   ·rename_i s rest he
    cases he;exact .inl ⟨s,rfl,by simpa using h4⟩
   ·rename_i u rest he
    cases he;exact .inr ⟨u,rfl,by simpa using h4⟩
   ·cases h4
  split at h5
  ·rename_i t u hts
   have hts':ts=#[t,u]:=by
    apply Array.ext';simpa using hts
   subst hts'
   split at h5
   ·rename_i e hu
    simp only[Bool.and_eq_true] at h5;obtain⟨h6,h7⟩:=h5
    split at h6
    ·rename_i i hi
     simp only[Bool.and_eq_true] at h6;obtain⟨⟨h8,h9⟩,h10⟩:=h6
     split at h10
     ·rename_i zv hzv
      have hud:∃ ud,P.underlying u=some ud/\∀ k,ud≠.int k:=by
       split at h7
       ·rename_i hu';exact⟨_,hu',fun k e=>by cases e⟩
       ·rename_i hu';exact⟨_,hu',fun k e=>by cases e⟩
       ·cases h7
      obtain⟨ud,hud1,hud2⟩:=hud;rw[hkk,hr,hml] at hk;simp only[map_cons,map_nil] at hk;generalize hvx:ev σ.fr rx=vx at hk
      cases vx<;>simp only[kf,kf0,reduceCtorEq] at hk
      obtain⟨l2,hl2,hk⟩:=Option.bind_eq_some_iff.1 hk
      split at hk
      ·rename_i hc
       obtain⟨c1,c2,c3,c4,c5⟩:=hc;simp only[Option.some.injEq,Prod.mk.injEq] at hk;obtain⟨rfl,rfl⟩:=hk;rw[hml];exact OC hs hd hop hx hy hdem hu hud1 hud2 hi (by simpa using h8) (by simpa using h9) hzv (by simpa using h10) hvx hl2 c1 c2 c3 c4 c5
      ·cases hk
     ·cases h10
    ·cases h6
   ·cases h5
  ·cases h5
 ·
  rename_i f first caps f' hop hkk
  simp only[Bool.and_eq_true] at hok;obtain⟨⟨⟨h1,h2⟩,h3⟩,h4⟩:=hok;obtain⟨hml,hdem⟩:=aY h2;have hf:f=f':=by simpa using h3
  subst hf;rw[hkk,hml] at hk;simp only[kf,kf0] at hk
  split at hk
  ·rename_i hc
   simp only[Option.some.injEq,Prod.mk.injEq] at hk;obtain⟨rfl,rfl⟩:=hk;rw[hml,hdem];exact NU hs hd hop h4 h1 hc
  ·cases hk
 ·
  rename_i f xs ts f' hop hkk;simp only[Bool.and_eq_true] at hok;obtain⟨⟨h1,h2⟩,h3⟩:=hok;have hdem:ao.dem=none:=by simpa using h2
  have hf:f=f':=by simpa using h3
  subst hf;rw[hkk] at hk;simp only[kf,kf0] at hk;rw[hdem];exact JD hs hd hG hop h1 hk
 ·
  rename_i t xs ts hop hkk;simp only[Bool.and_eq_true] at hok;obtain⟨h1,h2⟩:=hok;have hdem:ao.dem=none:=by simpa using h2
  obtain⟨r,rs,hr,hr1,hr2⟩:=nC h1;rw[hkk,hr] at hk;simp only[map_cons] at hk;generalize hvx:ev σ.fr r=vx at hk
  cases vx<;>simp only[kf,D3,reduceCtorEq] at hk
  rw[hdem];exact G5 hs hd hG hop hr1 hr2 hvx hk
 ·
  rename_i x i i' hop hkk;simp only[Bool.and_eq_true] at hok;obtain⟨r,hr,hr'⟩:=gA hok.1.1;obtain⟨hml,hdem⟩:=aY hok.1.2;have hi:i=i':=by simpa using hok.2
  subst hi;rw[hkk,hr,hml] at hk;simp only[map_cons,map_nil] at hk;generalize hvx:ev σ.fr r=vx at hk
  cases vx<;>simp only[kf,kf0,reduceCtorEq] at hk
  obtain⟨v',hv',he'⟩:=Option.map_eq_some_iff.1 hk;simp only[Prod.mk.injEq] at he';obtain⟨rfl,rfl⟩:=he';rw[hml,hdem];exact N4 hs hd hop hr' hvx hv'
 ·
  rename_i t x hop hkk;simp only[Bool.and_eq_true] at hok;obtain⟨r,hr,hr'⟩:=gA hok.1.1;have hdem:ao.dem=none:=by simpa using hok.1.2
  rw[hkk,hr] at hk;simp only[map_cons,map_nil] at hk;generalize hvx:ev σ.fr r=vx at hk
  cases vx<;>simp only[kf,kf0,reduceCtorEq] at hk
  rw[hdem]
  split at hk
  ·rename_i hml
   rw[hml] at hk ⊢;obtain⟨cells,hc,hk⟩:=Option.bind_eq_some_iff.1 hk
   split at hk
   ·rename_i hbk
    obtain⟨y,hy,hk⟩:=Option.bind_eq_some_iff.1 hk
    split at hk
    ·simp only[Option.some.injEq,Prod.mk.injEq] at hk
     obtain⟨rfl,rfl⟩:=hk;exact NX hs hd hop hr' hok.2 hvx hc hbk hy
    ·simp only[Option.some.injEq,Prod.mk.injEq] at hk
     obtain⟨rfl,rfl⟩:=hk;exact NY hs hd hop hr' hok.2 hvx hc hy
    ·cases hk
   ·cases hk
  ·cases hk
 ·
  rename_i t x y hop hkk;simp only[Bool.and_eq_true] at hok;obtain⟨⟨⟨h1,h2⟩,h3⟩,h4⟩:=hok;obtain⟨rx,ry,hr,hx,hy⟩:=fV h1;have hdem:(∃ s,ry=.t s/\ao.dem=some s)\/(∃ v,ry=.c v/\ao.dem=none):=by
   unfold FB at h2;rw[hr] at h2
   cases ry with
   | t s=>exact .inl ⟨s,rfl,by simpa using h2⟩
   | c v=>exact .inr ⟨v,rfl,by simpa using h2⟩
  have hdn:o.dst=none:=by rw[<- hdst];simpa using h3
  have hsz:aU P t=some 1:=by simpa using h4
  rw[hkk,hr] at hk;simp only[map_cons,map_nil] at hk;generalize hvx:ev σ.fr rx=vx at hk;generalize hvy:ev σ.fr ry=vy at hk
  cases vx<;>simp only[kf,kf0,reduceCtorEq] at hk
  rw[hdn]
  split at hk
  ·rename_i hml
   rw[hml] at hk ⊢;obtain⟨cells,hc,hk⟩:=Option.bind_eq_some_iff.1 hk
   split at hk
   ·rename_i hbk
    split at hk
    ·simp only[Option.some.injEq,Prod.mk.injEq] at hk
     obtain⟨rfl,rfl⟩:=hk;exact NF hs hop hdn hx hy hsz hdem hvx hc hbk.1 hbk.2 hvy
    ·cases hk
   ·cases hk
  ·cases hk
 ·
  rename_i src dst x k hop hkk;simp only[Bool.and_eq_true] at hok;obtain⟨⟨⟨h1,h2⟩,h3⟩,h4⟩:=hok;obtain⟨r,hr,hr'⟩:=gA h1;obtain⟨hml,hdem⟩:=aY h2;rw[hkk,hr,hml] at hk;simp only[map_cons,map_nil] at hk;generalize hvx:ev σ.fr r=vx at hk
  cases vx<;>simp only[kf,kf0,reduceCtorEq,Option.some.injEq,Prod.mk.injEq] at hk
  obtain⟨rfl,rfl⟩:=hk;rw[hml,hdem];exact N5 hs hd hop h3 h4 hr' hvx
 ·
  rename_i src dst x hop hkk;simp only[Bool.and_eq_true] at hok;obtain⟨⟨⟨h1,h2⟩,h3⟩,h4⟩:=hok;obtain⟨r,hr,hr'⟩:=gA h1;have hdem:ao.dem=none:=by simpa using h2
  rw[hkk,hr] at hk;simp only[map_cons,map_nil] at hk;generalize hvx:ev σ.fr r=vx at hk
  cases vx<;>simp only[kf,kf0,reduceCtorEq] at hk
  rw[hdem]
  split at hk
  ·rename_i hml
   rw[hml.1] at hk ⊢;simp only[Option.some.injEq,Prod.mk.injEq] at hk;obtain⟨rfl,rfl⟩:=hk;exact NM hs hd hop hr' h3 h4 hvx
  ·cases hk
 ·
  rename_i src dst x hop hkk;simp only[Bool.and_eq_true] at hok;obtain⟨⟨⟨h1,h2⟩,h3⟩,h4⟩:=hok;obtain⟨r,hr,hr'⟩:=gA h1;have hdem:ao.dem=none:=by simpa using h2
  rw[hkk,hr] at hk;simp only[map_cons,map_nil] at hk;generalize hvx:ev σ.fr r=vx at hk
  cases vx<;>simp only[kf,kf0,reduceCtorEq] at hk
  ·rw[hdem]
   split at hk
   ·rename_i hz
    subst hz;obtain⟨s,hs1,he⟩:=Option.map_eq_some_iff.1 hk;simp only[Prod.mk.injEq] at he;obtain⟨rfl,rfl⟩:=he;rw[qK];exact OB hs hd hop hr' h3 h4 hvx hs1
   ·cases hk
  ·rw[hdem]
   split at hk
   ·rename_i hz
    obtain⟨hml,rfl⟩:=hz;obtain⟨l,hl,hk⟩:=Option.bind_eq_some_iff.1 hk;obtain⟨s,hs1,he⟩:=Option.map_eq_some_iff.1 hk;simp only[Prod.mk.injEq] at he;obtain⟨rfl,rfl⟩:=he;rw[qK];rw[hml] at hl;simp only[fB,and_self,if_true] at hl;obtain⟨cells,hc,hl⟩:=Option.bind_eq_some_iff.1 hl;exact JF hs hd hop hr' h3 h4 hvx hc hl hs1
   ·cases hk
 ·
  rename_i t l c z zero bytes hop hkk;simp only[Bool.and_eq_true] at hok;obtain⟨⟨h1,h2⟩,h3⟩:=hok;obtain⟨rx,ry,hr,hx,hy⟩:=fV h1;have hdem:ao.dem=none:=by simpa using h2
  split at h3
  ·rename_i e hu
   simp only[Bool.and_eq_true] at h3;obtain⟨⟨h4,h5⟩,h6⟩:=h3;have hz:aU P e=some z:=by simpa using h4
   split at h6
   ·rename_i i hi
    have hb:i.bytes=bytes:=by simpa using h6
    rw[hkk,hr] at hk;simp only[map_cons,map_nil] at hk;generalize hvx:ev σ.fr rx=vx at hk;generalize hvy:ev σ.fr ry=vy at hk
    cases vx<;>cases vy<;>simp only[kf,kf0,reduceCtorEq] at hk
    rw[hdem]
    split at hk
    ·rename_i hc
     obtain⟨hml,rfl,rfl,c1,c2,c3,c4,c5,c6⟩:=hc;rw[hml] at hk ⊢;simp only[Option.some.injEq,Prod.mk.injEq] at hk;obtain⟨rfl,rfl⟩:=hk;exact NT hs hd hop hx hy hu hz h5 hi hb hvx hvy c1 c2 c3 c4 c5 c6
    ·cases hk
   ·cases h6
  ·cases h3
 ·
  rename_i xs ts str z bytes hop hkk;simp only[Bool.and_eq_true] at hok;obtain⟨⟨⟨h1,h2⟩,h3⟩,h5⟩:=hok;obtain⟨x,y,rfl⟩:∃ x y,xs=#[x,y]:=by
   have:xs.size=2:=by simpa using h3
   exact oX this
  obtain⟨rx,ry,hr,hx,hy⟩:=fV (x:=x) (y:=y) (by simpa using h1);have hdem:ao.dem=none:=by simpa using h2
  split at h5
  ·rename_i t u hts
   have hts':ts=#[t,u]:=by
    apply Array.ext';simpa using hts
   subst hts'
   split at h5
   ·rename_i e hu
    simp only[Bool.and_eq_true] at h5;obtain⟨h6,h7⟩:=h5
    split at h6
    ·rename_i i hi
     simp only[Bool.and_eq_true] at h6;obtain⟨⟨h8,h9⟩,h10⟩:=h6
     split at h10
     ·rename_i zv hzv
      have hud:∃ ud,P.underlying u=some ud/\∀ k,ud≠.int k:=by
       split at h7
       ·rename_i hu';exact⟨_,hu',fun k e=>by cases e⟩
       ·rename_i hu';exact⟨_,hu',fun k e=>by cases e⟩
       ·cases h7
      obtain⟨ud,hud1,hud2⟩:=hud;rw[hkk,hr] at hk;simp only[map_cons,map_nil,kf,kf0] at hk;rw[hdem]
      split at hk
      ·rename_i hml
       rw[hml] at hk ⊢;obtain⟨l2,hl2,hk⟩:=Option.bind_eq_some_iff.1 hk
       split at hk
       ·rename_i z' hvx
        split at hk
        ·rename_i hl0
         subst hl0;simp only[Option.some.injEq,Prod.mk.injEq] at hk;obtain⟨rfl,rfl⟩:=hk;obtain⟨news,n1,n2,n3,n4,n5⟩:=jD (P:=P) hs hy hl2;have hnews:news=[]:=eq_nil_of_length_eq_zero (by simpa using n1);subst hnews;obtain⟨A,c,e1,e2,e3,_⟩:=hs.rdSl hx hvx;have hc0:c=0:=by simpa using e3 rfl
         subst hc0;have his:i.size=z:=by simpa using h8
         have hrun:=lG (P:=P) (w:=w) (ty:=o.type) (A:=A) (c:=0) (n:=0) hu hud1 hud2 hi (by simpa using n4) (by rw[his];simpa using n5) (Nat.le_refl _);refine aG hs hd (val:=.slice A 0 0) ?_ rfl ?_
         ·have e1':a.eval x=.slice A 0 0:=e1
          simp [execOp,hop,resolve,invoke,builtin,e1',hrun]
         ·show aE _ _ (.sl .full z []) _
          simp only[aE];exact⟨A,0,rfl,Nat.le_refl _,fun _=>rfl,by simp,.inl trivial⟩
        ·rename_i hne
         split at hk
         ·rename_i hc
          simp only[Option.some.injEq,Prod.mk.injEq] at hk;obtain⟨rfl,rfl⟩:=hk;exact JH hs hd hop hx hy hu hud1 hud2 hi (by simpa using h8) (by simpa using h9) hzv (by simpa using h10) hvx hl2 hne hc.1 hc.2.1 hc.2.2
         ·cases hk
       ·rename_i so off n z' hvx
        split at hk
        ·rename_i hc
         obtain⟨rfl,rfl,c3,c4,c5⟩:=hc;obtain⟨cells,hcl,hk⟩:=Option.bind_eq_some_iff.1 hk
         split at hk
         ·rename_i hb
          simp only[Option.some.injEq,Prod.mk.injEq] at hk;obtain⟨rfl,rfl⟩:=hk;exact JG hs hd hop hx hy hu hud1 hud2 hi (by simpa using h8) (by simpa using h9) hzv (by simpa using h10) hvx hl2 hcl hb.1 hb.2.1 hb.2.2 c3 c4 c5
         ·cases hk
        ·cases hk
       ·cases hk
      ·cases hk
     ·cases h10
    ·cases h6
   ·cases h5
  ·cases h5
 ·
  rename_i xs ts z zero hop hkk;simp only[Bool.and_eq_true] at hok;obtain⟨⟨⟨h1,h2⟩,h3⟩,h5⟩:=hok;obtain⟨x,rfl⟩:∃ x,xs=#[x]:=by
   have:xs.size=1:=by simpa using h3
   exact Array.size_eq_one_iff.1 this
  obtain⟨r,hr,hr'⟩:=gA (x:=x) (by simpa using h1);have hdem:ao.dem=none:=by simpa using h2
  split at h5
  ·rename_i t hts
   have hts':ts=#[t]:=by
    apply Array.ext';simpa using hts
   subst hts'
   split at h5
   ·rename_i e hu
    simp only[Bool.and_eq_true] at h5;rw[hkk,hr] at hk;simp only[map_cons,map_nil,kf,kf0] at hk;rw[hdem]
    split at hk
    ·rename_i hvx
     simp only[Option.some.injEq,Prod.mk.injEq] at hk;obtain⟨rfl,rfl⟩:=hk;rw[qK];exact JC hs hd hop hr' hu hvx
    ·rename_i so off n z' hvx
     split at hk
     ·rename_i hc
      obtain⟨hml,rfl,c3⟩:=hc;rw[hml] at hk ⊢;obtain⟨cells,hcl,hk⟩:=Option.bind_eq_some_iff.1 hk
      split at hk
      ·rename_i hb
       obtain⟨c',hc',he⟩:=Option.map_eq_some_iff.1 hk;simp only[Prod.mk.injEq] at he;obtain⟨rfl,rfl⟩:=he;exact N7 hs hd hop hr' hu h5.1 c3 hvx hcl hb hc'
      ·cases hk
     ·cases hk
    ·cases hk
   ·cases h5
  ·cases h5
 ·
  rename_i t x lo hi mx z hop hkk;simp only[Bool.and_eq_true] at hok;obtain⟨⟨⟨⟨⟨h1,h2⟩,h3⟩,h4⟩,h5⟩,h6⟩:=hok;have hlo:lo=none:=by simpa using h3
  subst hlo;obtain⟨r,hr,hr'⟩:=gA h1;obtain⟨hml,hdem⟩:=aY h2;rw[hkk,hr,hml] at hk;simp only[map_cons,map_nil,kf,kf0] at hk;rw[hml,hdem]
  split at hk
  ·rename_i hvx
   simp only[Option.some.injEq,Prod.mk.injEq] at hk;obtain⟨rfl,rfl⟩:=hk;exact AU hs hd hop hr' h4 h5 h6 (.inl ⟨_,_,_,hvx⟩)
  ·rename_i hvx
   simp only[Option.some.injEq,Prod.mk.injEq] at hk;obtain⟨rfl,rfl⟩:=hk;exact AU hs hd hop hr' h4 h5 h6 (.inr ⟨_,_,_,_,hvx⟩)
  ·cases hk
 ·
  rename_i t hop hkk;simp only[Bool.and_eq_true] at hok;have hr:=qY hok.1;have hdem:ao.dem=none:=by simpa using hok.2
  rw[hkk,hr] at hk;simp only[map_nil,kf,kf0] at hk;rw[hdem]
  split at hk
  ·rename_i hml
   rw[hml] at hk ⊢;simp only[Option.some.injEq,Prod.mk.injEq] at hk;obtain⟨rfl,rfl⟩:=hk;exact NR hs hd hop
  ·cases hk
 ·
  rename_i t x y ok' ok agg kk zero hop hkk;simp only[Bool.and_eq_true] at hok;obtain⟨⟨⟨h1,h2⟩,h3⟩,h4⟩:=hok;obtain⟨rx,ry,hr,hx,hy⟩:=fV h1;have hdem:ao.dem=none:=by simpa using h2
  have hok':ok'=ok:=by simpa using h3
  subst hok'
  split at h4
  ·rename_i key elem hu
   simp only[Bool.and_eq_true] at h4;rw[hkk,hr] at hk;simp only[map_cons,map_nil] at hk;generalize hvx:ev σ.fr rx=vx at hk
   cases vx<;>simp only[kf,kf0,reduceCtorEq] at hk
   rw[hdem]
   split at hk
   ·rename_i hc
    obtain⟨hml,hky⟩:=hc;rw[hml] at hk ⊢;obtain⟨l,hl,hk⟩:=Option.bind_eq_some_iff.1 hk;obtain⟨r,hr2,hk⟩:=Option.bind_eq_some_iff.1 hk;obtain⟨v',hv',he⟩:=Option.map_eq_some_iff.1 hk;simp only[Prod.mk.injEq] at he;obtain⟨rfl,rfl⟩:=he;rw[qK];exact NW hs hd hop hx hy hu h4.1 h4.2 hvx (BM hl) hr2 hv' hky
   ·cases hk
  ·cases h4
 ·
  rename_i t mm k x kk hop hkk;simp only[Bool.and_eq_true] at hok;obtain⟨⟨⟨h1,h2⟩,h3⟩,h4⟩:=hok;obtain⟨rm,rx,ry,hr,hm,hx,hy⟩:=xU h1;have hdem:ao.dem=none:=by simpa using h2
  have hdn:o.dst=none:=by rw[<- hdst];simpa using h3
  split at h4
  ·rename_i key elem hu
   rw[hkk,hr] at hk;simp only[map_cons,map_nil] at hk;generalize hvm:ev σ.fr rm=vm at hk
   cases vm<;>simp only[kf,kf0,reduceCtorEq] at hk
   rw[hdem,hdn]
   split at hk
   ·rename_i hc
    obtain⟨hml,sx,sy⟩:=hc;rw[hml] at hk ⊢;obtain⟨l,hl,hk⟩:=Option.bind_eq_some_iff.1 hk;obtain⟨l',hl',he⟩:=Option.map_eq_some_iff.1 hk;simp only[Prod.mk.injEq] at he;obtain⟨rfl,rfl⟩:=he;exact NP hs hop hdn hm hx hy hu h4 hvm (BM hl) hl' sx sy
   ·cases hk
  ·cases h4
 ·
  rename_i t x i agg z len hop hkk;simp only[Bool.and_eq_true] at hok;obtain⟨⟨h1,h2⟩,h3⟩:=hok;obtain⟨rx,ry,hr,hx,hy⟩:=fV h1;obtain⟨hml,hdem⟩:=aY h2
  split at h3
  ·rename_i n e hu
   simp only[Bool.and_eq_true] at h3;have hn:n=len:=by simpa using h3.1
   subst hn;rw[hkk,hr,hml] at hk;simp only[map_cons,map_nil] at hk;generalize hvx:ev σ.fr rx=vx at hk;generalize hvy:ev σ.fr ry=vy at hk
   cases vx<;>cases vy<;>simp only[kf,kf0,reduceCtorEq] at hk
   rw[hml,hdem]
   split at hk
   ·rename_i hc
    obtain⟨v',hv',he'⟩:=Option.map_eq_some_iff.1 hk;simp only[Prod.mk.injEq] at he';obtain⟨rfl,rfl⟩:=he';exact N2 hs hd hop hx hy hu h3.2 hvx hvy hc.1 hc.2.1 hc.2.2 hv'
   ·cases hk
  ·cases h3
 ·
  rename_i op t x y t' l hop hkk;simp only[Bool.and_eq_true] at hok;obtain⟨⟨h1,h2⟩,h3⟩:=hok;obtain⟨rx,ry,hr,hx,hy⟩:=fV h1;obtain⟨hml,hdem⟩:=aY h2;rw[hkk,hr,hml] at hk;simp only[map_cons,map_nil,kf,kf0] at hk;obtain⟨v',hv',he'⟩:=Option.map_eq_some_iff.1 hk;simp only[Prod.mk.injEq] at he';obtain⟨rfl,rfl⟩:=he';rw[hml,hdem];exact NK hs hd hop h3 hx hy hv'
 ·
  rename_i f xs ts f' hop hkk;simp only[Bool.and_eq_true] at hok;obtain⟨⟨h1,h2⟩,h3⟩:=hok;have hdem:ao.dem=none:=by simpa using h2
  have hf:f=f':=by simpa using h3
  subst hf;rw[hkk] at hk;simp only[kf] at hk;rw[hdem];exact G6 hs hd hG hop h1 hk
 ·
  rename_i t xs ts hop hkk;simp only[Bool.and_eq_true] at hok;obtain⟨h1,h2⟩:=hok;have hdem:ao.dem=none:=by simpa using h2
  obtain⟨r,rs,hr,hr1,hr2⟩:=nC h1;rw[hkk,hr] at hk;simp only[map_cons] at hk;generalize hvx:ev σ.fr r=vx at hk
  cases vx<;>simp only[kf,dJ,reduceCtorEq] at hk
  rw[hdem];exact C3 hs hd hG hop hr1 hr2 hvx hk
 ·
  rename_i t x lo hi z l hop hkk;simp only[Bool.and_eq_true] at hok;obtain⟨⟨⟨h1,h2⟩,h3⟩,h4⟩:=hok;have hdem:ao.dem=none:=by simpa using h2
  have hl:l=lo.isSome:=by simpa using (beq_iff_eq.1 h3).symm
  subst hl
  split at h4
  ·rename_i e hu
   have hz:aU P e=some z:=by simpa using h4
   rw[hdem]
   cases lo with
   | none =>
    obtain⟨rx,ry,hr,hx,hy⟩:=fV (x:=x) (y:=hi) (by simpa using h1);rw[hkk,hr] at hk;simp only[map_cons,map_nil,Option.isSome_none,kf,kf0] at hk
    split at hk
    ·rename_i hml
     rw[hml] at hk ⊢;obtain⟨v',hv',he'⟩:=Option.map_eq_some_iff.1 hk;simp only[Prod.mk.injEq] at he';obtain⟨rfl,rfl⟩:=he';exact EM hs hd hop hx hy hu hz (lo':=none) trivial (uZ hv').2 hv'
    ·cases hk
   | some y =>
    obtain⟨rx,ry,ry',hr,hx,hy,hy'⟩:=xU (x:=x) (y:=y) (z:=hi) (by simpa using h1);rw[hkk,hr] at hk;simp only[map_cons,map_nil,Option.isSome_some,kf,kf0] at hk
    split at hk
    ·rename_i hml
     rw[hml] at hk ⊢;obtain⟨v',hv',he'⟩:=Option.map_eq_some_iff.1 hk;simp only[Prod.mk.injEq] at he';obtain⟨rfl,rfl⟩:=he';obtain⟨k,n,hint⟩:=(uZ hv').1 _ rfl;exact EM hs hd hop hx hy' hu hz (lo':=some (ev σ.fr ry)) (AD hs hy hint) (uZ hv').2 hv'
    ·cases hk
  ·cases h4
 ·
  rename_i t x lo hi mx hop hkk;simp only[Bool.and_eq_true] at hok;obtain⟨⟨h1,h2⟩,h3⟩:=hok;obtain⟨hml,hdem⟩:=aY h2;obtain⟨rx,rs,hr,hx,h1⟩:=nC h1;obtain⟨ri,rj,rk,hr2,hi',hj',hk'⟩:=xU h1
  split at h3
  ·rename_i e hu
   obtain⟨inf,hinf⟩:=Option.isSome_iff_exists.1 h3;rw[hkk,hr,hr2,hml] at hk;simp only[map_cons,map_nil,kf,kf0] at hk
   split at hk
   ·rename_i hb
    simp only[Option.some.injEq,Prod.mk.injEq] at hk;obtain⟨rfl,rfl⟩:=hk;rw[hml,hdem];exact NI hs hd hop hx hi' hj' hk' hu hinf hb
   ·cases hk
  ·cases h3
 ·
  rename_i t x lo hi len hop hkk;simp only[Bool.and_eq_true] at hok;obtain⟨⟨h1,h2⟩,h3⟩:=hok;have hdem:ao.dem=none:=by simpa using h2
  obtain⟨rx,ri,rj,hr,hx,hi',hj'⟩:=xU h1
  split at h3
  ·rename_i n e hu
   simp only[Bool.and_eq_true] at h3;have hn:n=len:=by simpa using h3.1
   subst hn;have hz:aU P e=some 1:=by simpa using h3.2
   rw[hkk,hr] at hk;simp only[map_cons,map_nil,kf] at hk;cases hvx:ev σ.fr rx<;>cases hvi:ev σ.fr ri<;>cases hvj:ev σ.fr rj<;>rw[hvx,hvi,hvj] at hk<;>simp only[kf0,reduceCtorEq] at hk
   split at hk
   ·rename_i hc
    obtain⟨hml,q0,q1,q2⟩:=hc;obtain⟨cells,q3,q4⟩:=Option.bind_eq_some_iff.1 hk
    split at q4
    ·rename_i hc2
     obtain⟨q5,q6⟩:=hc2;simp only[Option.some.injEq,Prod.mk.injEq] at q4;obtain⟨rfl,rfl⟩:=q4;rw[hml,hdem];rw[hml] at q3;exact NJ hs hd hop hx hi' hj' hu hz hvx hvi hvj q0 q1 q2 q3 q5 q6
    ·cases q4
   ·cases hk
  ·cases h3
 ·
  rename_i xs ts z hop hkk;simp only[Bool.and_eq_true] at hok;obtain⟨⟨⟨h1,h2⟩,h3⟩,h5⟩:=hok;obtain⟨x,y,rfl⟩:∃ x y,xs=#[x,y]:=by
   have:xs.size=2:=by simpa using h3
   exact oX this
  obtain⟨rx,ry,hr,hx,hy⟩:=fV (x:=x) (y:=y) (by simpa using h1);have hdem:ao.dem=none:=by simpa using h2
  split at h5
  ·rename_i t u hts
   have hts':ts=#[t,u]:=by
    apply Array.ext';simpa using hts
   subst hts'
   split at h5
   ·rename_i e hu
    have hz:aU P e=some z:=by simpa using h5
    rw[hkk,hr] at hk;simp only[map_cons,map_nil,kf,kf0] at hk;rw[hdem]
    split at hk
    ·rename_i hml
     rw[hml] at hk ⊢;obtain⟨⟨v',sh'⟩,hv',he'⟩:=Option.map_eq_some_iff.1 hk;simp only[Prod.mk.injEq] at he';obtain⟨rfl,rfl⟩:=he';exact N6 hs hd hop hx hy hu hz hv'
    ·cases hk
   ·cases h5
  ·cases h5
 ·
  rename_i xs ts z hop hkk;simp only[Bool.and_eq_true] at hok;obtain⟨⟨⟨h1,h2⟩,h3⟩,h5⟩:=hok;obtain⟨x,y,rfl⟩:∃ x y,xs=#[x,y]:=by
   have:xs.size=2:=by simpa using h3
   exact oX this
  obtain⟨rx,ry,hr,hx,hy⟩:=fV (x:=x) (y:=y) (by simpa using h1);have hdem:ao.dem=none:=by simpa using h2
  split at h5
  ·rename_i t u hts
   have hts':ts=#[t,u]:=by
    apply Array.ext';simpa using hts
   subst hts'
   split at h5
   ·rename_i e hu
    simp only[Bool.and_eq_true] at h5;have hz:aU P e=some z:=by simpa using h5.1
    have h6:=h5.2
    split at h6
    ·rename_i e2 hu2
     rw[hkk,hr] at hk;simp only[map_cons,map_nil,kf,kf0] at hk;rw[hdem]
     split at hk
     ·rename_i hml
      rw[hml] at hk ⊢;obtain⟨⟨v',sh'⟩,hv',he'⟩:=Option.map_eq_some_iff.1 hk;simp only[Prod.mk.injEq] at he';obtain⟨rfl,rfl⟩:=he';exact JI hs hd hop hx hy hu hu2 hz hv'
     ·cases hk
    ·cases h6
   ·cases h5
  ·cases h5
 ·cases hok
end
end Go.Av
namespace Go.Av
variable [Gtab]
open Go.RowKit
def okO (P:Program) (nt:Nat) (ops:Array Oper) (o:Oper) (ao:AOper):Bool:=
 ao.dst == o.dst && (match o.dst with | none=>true | some d=>decide (d < nt)) &&
 (match o.guard,ao.guard with
  | none,none=>true
  | some (j,b),some (s,b')=>b == b' && (ops[j]?).bind (·.dst) == some s && decide (s < nt)
  | _,_=>false) && okK P o ao
def tX (P:Program) (nt:Nat) (ops:Array Oper):List Oper->List AOper->Bool
 | [],[]=>true
 | o :: os,ao :: aos=>okO P nt ops o ao && tX P nt ops os aos
 | _,_=>false
section
variable {P:Program} {E:Env} {g g':Gh} {σ σ' σ1:AS} {a:Act} {w w':World} {o:Oper} {ao:AOper} {Q:Exit->Act->World->Prop} {ops:Array Oper} {G:aM}
theorem BY (hs:Sim E g σ a w) (hok:okO P E.nt ops o ao=true) :
  (eT σ.fr ao.guard=some true->Region.wanted o (yielded ops a.tmps)=true)/\(eT σ.fr ao.guard=some false->Region.wanted o (yielded ops a.tmps)=false):=by
 unfold okO at hok;simp only[Bool.and_eq_true] at hok;obtain⟨⟨_,h⟩,_⟩:=hok;unfold Region.wanted
 split at h
 ·rename_i h1 h2
  rw[h1,h2];simp [eT]
 ·rename_i j b s b' h1 h2
  simp only[Bool.and_eq_true,decide_eq_true_eq] at h;obtain⟨⟨h3,h4⟩,h5⟩:=h;have hb:b=b':=by simpa using h3
  subst hb;have h4':(ops[j]?).bind (·.dst)=some s:=by simpa using h4
  rw[h1,h2];have hslot:=hs.slots s;have hsz:s < a.tmps.size:=by rw[hs.size];exact h5
  have hgd:a.tmps.getD s undef=a.tmps[s]:=by simp [Array.getD_eq_getD_getElem?,hsz]
  rw[hgd] at hslot;simp only[eT,yielded,h4',Option.bind_some,Array.getElem?_eq_getElem hsz];generalize hv:σ.fr s=v at hslot
  cases v<;>simp only[reduceCtorEq,false_implies,and_self,Option.some.injEq]<;>try exact⟨trivial,trivial⟩
  ·have:a.tmps[s]=undef:=hslot
   rw[this];exact⟨trivial,fun _=>rfl⟩
  ·rename_i c
   have:a.tmps[s]=.bool c:=hslot
   rw[this];exact⟨fun h=>by simpa using h,fun h=>by simpa using h⟩
 ·cases h
theorem pP (hG:gQ P G) (hs:Sim E g σ a w) (hok:okO P E.nt ops o ao=true) (h:cG G ao σ=some σ') :
  if Region.wanted o (yielded ops a.tmps)=true then o.wp P a w (aT E σ') Q else aT E σ' (a.put o.dst undef) w:=by
 obtain⟨g1,g2⟩:=BY (ops:=ops) hs hok;unfold okO at hok;simp only[Bool.and_eq_true] at hok;obtain⟨⟨⟨h1,h2⟩,_⟩,h4⟩:=hok;have hdst:ao.dst=o.dst:=by simpa using h1
 have hd:∀ d,o.dst=some d->d < E.nt:=by
  intro d hd;rw[hd] at h2;simpa using h2
 have hcase:eT σ.fr ao.guard=some true\/eT σ.fr ao.guard=some false:=by
  unfold cG at h
  split at h
  ·rename_i e;exact .inl e
  ·rename_i e;exact .inr e
  ·cases h
 rcases hcase with hg | hg
 ·rw[if_pos (g1 hg)]
  obtain⟨v,m,hk,rfl⟩:=ND h hg;rw[hdst];exact DR hG hs hd hdst h4 hk
 ·rw[if_neg (by rw[g2 hg];simp)]
  have:σ'=put σ ao.dst .undef:=by
   unfold cG at h;rw[hg] at h;simpa using h.symm
  subst this;rw[hdst];cases hdd:o.dst with
  | none=>exact⟨g,hs⟩
  | some d=>exact⟨g,hs.put_ (hd d hdd) rfl⟩
theorem pY (hG:gQ P G):∀ {os:List Oper} {aos:List AOper} {σ:AS} {a:Act} {w:World},tX P E.nt ops os aos=true->aT E σ a w->cY G aos σ=some σ' ->
  (∀ a w,aT E σ' a w->Q .normal a w)->wpList P ops Q os a w
 | [],[],σ,a,w,_,hp,hr,hQ=>by
  simp only[cY,Option.some.injEq] at hr;subst hr;exact hQ a w hp
 | o :: os,ao :: aos,σ,a,w,hok,⟨g,hs⟩,hr,hQ=>by
  simp only[tX,Bool.and_eq_true] at hok;simp only[cY] at hr;obtain⟨σ1,h1,h2⟩:=Option.bind_eq_some_iff.1 hr;have hst:=pP (Q:=Q) hG hs hok.1 h1;unfold wpList;split
  ·rename_i hw
   rw[if_pos hw] at hst;exact .inl (Oper.wp_mono (fun a w hp=>pY hG hok.2 hp h2 hQ) hst)
  ·rename_i hw
   rw[if_neg hw] at hst;exact pY hG hok.2 hst h2 hQ
 | [],_ :: _,_,_,_,hok,_,_,_=>by simp [tX] at hok
 | _ :: _,[],_,_,_,hok,_,_,_=>by simp [tX] at hok
def roK:AK->Bool
 | .ld ..=>true
 | .b2s=>true
 | .callR _=>true
 | .callvR=>true
 | .lkp ..=>true
 | _=>false
def wml (o:AOper):ML:=if roK o.k then .none else o.ml
def IH:List AR->List Nat
 | []=>[]
 | .t s :: r=>s :: IH r
 | .c _ :: r=>IH r
def rdS (o:AOper):List Nat:=IH o.args++(match o.guard with | some (s,_)=>[s] | none=>[])
def wrS (o:AOper):List Nat:=o.dst.toList++o.dem.toList
def zZ (l m:List Nat):Bool:=l.all fun x=>!m.contains x
def vM (w r:ML):Bool:=w == .none || w != r
def DU (o p:AOper):Bool:=
 zZ (wrS o) (rdS p) && zZ (wrS o) (wrS p) && zZ (wrS p) (rdS o) && vM (wml o) p.ml && vM (wml p) o.ml
def QqQ (o p:AOper):Bool:=
 (match o.k,p.k with | .ldo,.ld ..=>true | _,_=>false) && o.ml == .sh && p.ml == .sh && zZ (wrS o) (rdS p) && zZ (wrS o) (wrS p) && zZ (wrS p) (rdS o)
def tH (o p:AOper):Bool:=DU o p || QqQ o p || QqQ p o
def dec (G:aM) (o:AOper) (σ:AS):Option (Option (AV × MV)):=
 match eT σ.fr o.guard with
 | some true=>(kf G (o.dst.getD 0) o.ml o.k (o.args.map (ev σ.fr)) (rdm σ o.ml)).map some
 | some false=>some none
 | none=>none
def eff (o:AOper) (out:Option (AV × MV)) (σ:AS):AS:=
 match out with
 | some (v,m)=>put (dE (wrm σ m (wml o)) o.dem) o.dst v
 | none=>put σ o.dst .undef
theorem wL {ml:ML} {f:FuncId} {xs:List AV} {m m':MV} {v:AV} (h:iE G ml f xs m=some (v,m')):m'=m:=by
 unfold iE at h
 split at h
 ·obtain⟨ys,_,h⟩:=Option.bind_eq_some_iff.1 h
  split at h
  ·obtain⟨r,_,h⟩:=Option.bind_eq_some_iff.1 h
   split at h
   ·simp only[Option.some.injEq,Prod.mk.injEq] at h;exact h.2.symm
   ·cases h
  ·cases h
 ·cases h
theorem PD {d:Nat} {ml:ML} {k:AK} {xs:List AV} {m m':MV} {v:AV} (hr:roK k=true) (h:kf G d ml k xs m=some (v,m')):m'=m:=by
 cases k<;>simp [roK] at hr
 ·match xs,h with
  | [x],h =>
   simp only[kf,kf0] at h
   split at h
   ·split at h
    ·obtain⟨c,_,h⟩:=Option.bind_eq_some_iff.1 h
     obtain⟨_,_,h⟩:=Option.map_eq_some_iff.1 h;simp only[Prod.mk.injEq] at h;exact h.2.symm
    ·cases h
   ·split at h
    ·obtain⟨c,_,h⟩:=Option.bind_eq_some_iff.1 h
     obtain⟨_,_,h⟩:=Option.map_eq_some_iff.1 h;simp only[Prod.mk.injEq] at h;exact h.2.symm
    ·cases h
   ·obtain⟨_,_,h⟩:=Option.map_eq_some_iff.1 h
    simp only[Prod.mk.injEq] at h;exact h.2.symm
   ·cases h
  | [],h=>simp [kf,kf0] at h
  | _ :: _ :: _,h=>simp [kf,kf0] at h
 ·exact wL h
 ·match xs,h with
  | .fn f caps :: xs,h=>exact wL h
  | [],h=>simp [kf,dJ] at h
  | .any :: _,h=>simp [kf,dJ] at h
  | .undef :: _,h=>simp [kf,dJ] at h
  | .int .. :: _,h=>simp [kf,dJ] at h
  | .bool _ :: _,h=>simp [kf,dJ] at h
  | .str _ :: _,h=>simp [kf,dJ] at h
  | .nilp :: _,h=>simp [kf,dJ] at h
  | .ptr .. :: _,h=>simp [kf,dJ] at h
  | .loc .. :: _,h=>simp [kf,dJ] at h
  | .ip _ :: _,h=>simp [kf,dJ] at h
  | .sl .. :: _,h=>simp [kf,dJ] at h
  | .agg _ :: _,h=>simp [kf,dJ] at h
  | .tup _ :: _,h=>simp [kf,dJ] at h
  | .ss .. :: _,h=>simp [kf,dJ] at h
  | .mp _ :: _,h=>simp [kf,dJ] at h
  | .mapv _ :: _,h=>simp [kf,dJ] at h
  | .aggR _ :: _,h=>simp [kf,dJ] at h
 ·match xs,h with
  | [x],h =>
   simp only[kf,kf0] at h
   split at h
   ·split at h
    ·obtain⟨_,_,h⟩:=Option.map_eq_some_iff.1 h
     simp only[Prod.mk.injEq] at h;exact h.2.symm
    ·cases h
   ·split at h
    ·obtain⟨c,_,h⟩:=Option.bind_eq_some_iff.1 h
     obtain⟨_,_,h⟩:=Option.map_eq_some_iff.1 h;simp only[Prod.mk.injEq] at h;exact h.2.symm
    ·cases h
   ·cases h
  | [],h=>simp [kf,kf0] at h
  | _ :: _ :: _,h=>simp [kf,kf0] at h
 ·match xs,h with
  | [.mp o,k],h =>
   simp only[kf,kf0] at h
   split at h
   ·obtain⟨c,_,h⟩:=Option.bind_eq_some_iff.1 h
    obtain⟨c,_,h⟩:=Option.bind_eq_some_iff.1 h;obtain⟨_,_,h⟩:=Option.map_eq_some_iff.1 h;simp only[Prod.mk.injEq] at h;exact h.2.symm
   ·cases h
  | [],h=>simp [kf,kf0] at h
  | [_],h=>simp [kf,kf0] at h
  | _ :: _ :: _ :: _,h=>simp [kf,kf0] at h
  | [x,k],h =>
   cases x<;>simp only[kf,kf0,reduceCtorEq] at h
   split at h
   ·obtain⟨c,_,h⟩:=Option.bind_eq_some_iff.1 h
    obtain⟨c,_,h⟩:=Option.bind_eq_some_iff.1 h;obtain⟨_,_,h⟩:=Option.map_eq_some_iff.1 h;simp only[Prod.mk.injEq] at h;exact h.2.symm
   ·cases h
theorem EF (σ:AS) (ml:ML):wrm σ (rdm σ ml) ml=σ:=by
 cases ml with
 | none=>rfl
 | sh=>rfl
 | lo s =>
  show { σ with lo:=upd σ.lo s (σ.lo s) }=σ
  have:upd σ.lo s (σ.lo s)=σ.lo:=by funext t;unfold upd;split<;>simp_all
  rw[this]
theorem fY (o:AOper) (σ:AS):cG G o σ=(dec G o σ).map (eff o · σ):=by
 unfold cG dec;cases hg:eT σ.fr o.guard with
 | none=>rfl
 | some b =>
  cases b with
  | false=>rfl
  | true =>
   simp only;cases hk:kf G (o.dst.getD 0) o.ml o.k (o.args.map (ev σ.fr)) (rdm σ o.ml) with
   | none=>rfl
   | some r =>
    obtain⟨v,m⟩:=r;simp only[Option.map_some,eff,wml];split
    ·rename_i hr
     rw[PD hr hk,EF];rfl
    ·rfl
theorem nO {l m:List Nat} (h:zZ l m=true) {x:Nat} (hx:x∈l):x ∉ m:=by
 unfold zZ at h;rw[all_eq_true] at h
 have:=h x hx
 simpa using this
theorem nN (o:AOper) (out:Option (AV × MV)) (σ:AS) (t:Nat) (ht:t ∉ wrS o):(eff o out σ).fr t=σ.fr t:=by
 have h1:o.dst≠some t:=fun e=>ht (by simp [wrS,e])
 have h2:o.dem≠some t:=fun e=>ht (by simp [wrS,e])
 have hp:∀ (σ:AS) (v:AV),(put σ o.dst v).fr t=σ.fr t:=by
  intro σ v;cases hd:o.dst with
  | none=>rfl
  | some d=>simp only[put,upd];rw[if_neg (fun e=>h1 (by rw[hd,e]))]
 have hq:∀ (σ:AS),(dE σ o.dem).fr t=σ.fr t:=by
  intro σ;cases hd:o.dem with
  | none=>rfl
  | some d=>simp only[dE,upd];rw[if_neg (fun e=>h2 (by rw[hd,e]))]
 have hm:∀ (m:MV) (ml:ML),(wrm σ m ml).fr=σ.fr:=fun m ml=>by cases ml<;>rfl
 cases out with
 | none=>exact hp _ _
 | some r =>
  obtain⟨v,m⟩:=r;show (put (dE (wrm σ m (wml o)) o.dem) o.dst v).fr t=_;rw[hp,hq,hm]
theorem jV (σ:AS) (d:Option Nat) (v:AV):(put σ d v).lo=σ.lo/\(put σ d v).sh=σ.sh:=by cases d<;>exact⟨rfl,rfl⟩
theorem uR (σ:AS) (d:Option Nat):(dE σ d).lo=σ.lo/\(dE σ d).sh=σ.sh:=by cases d<;>exact⟨rfl,rfl⟩
theorem zY (o:AOper) (out:Option (AV × MV)) (σ:AS) (ml:ML) (h:vM (wml o) ml=true):rdm (eff o out σ) ml=rdm σ ml:=by
 have hmem:∀ σ1 σ2:AS,σ1.lo=σ2.lo->σ1.sh=σ2.sh->rdm σ1 ml=rdm σ2 ml:=by
  intro σ1 σ2 h1 h2
  cases ml<;>simp [rdm,h1,h2]
 cases out with
 | none=>exact hmem _ _ (jV _ _ _).1 (jV _ _ _).2
 | some r =>
  obtain⟨v,m⟩:=r
  have:rdm (eff o (some (v,m)) σ) ml=rdm (wrm σ m (wml o)) ml:=by
   refine hmem _ _ ?_ ?_
   ·show (put (dE (wrm σ m (wml o)) o.dem) o.dst v).lo=_
    rw[(jV _ _ _).1,(uR _ _).1]
   ·show (put (dE (wrm σ m (wml o)) o.dem) o.dst v).sh=_
    rw[(jV _ _ _).2,(uR _ _).2]
  rw[this];unfold vM at h;cases hw:wml o with
  | none=>rfl
  | sh =>
   rw[hw] at h
   cases ml<;>first | rfl | simp at h
  | lo s =>
   rw[hw] at h
   cases ml with
   | none=>rfl
   | sh=>rfl
   | lo s' =>
    have hne:s'≠s:=by rintro rfl;simp at h
    simp [rdm,wrm,upd,hne]
theorem BJ {args:List AR} {s:Nat} (h:AR.t s∈args):s∈IH args:=by
 induction args with
 | nil=>cases h
 | cons r rs ih =>
  cases r with
  | t x =>
   simp only[IH,mem_cons];rcases mem_cons.1 h with e | e
   ·cases e;exact .inl rfl
   ·exact .inr (ih e)
  | c x =>
   simp only[IH];rcases mem_cons.1 h with e | e
   ·cases e
   ·exact ih e
theorem oV (o:AOper) (σ τ:AS) (hf:∀ t∈rdS o,τ.fr t=σ.fr t) (hm:rdm τ o.ml=rdm σ o.ml):dec G o τ=dec G o σ:=by
 have hg:eT τ.fr o.guard=eT σ.fr o.guard:=by
  cases hgd:o.guard with
  | none=>rfl
  | some p =>
   obtain⟨s,b⟩:=p
   have:=hf s (by simp [rdS,hgd])
   simp [eT,this]
 have ha:o.args.map (ev τ.fr)=o.args.map (ev σ.fr):=by
  apply map_congr_left;intro r hr
  cases r with
  | c x=>rfl
  | t s=>exact hf s (by simp [rdS,BJ hr])
 unfold dec;rw[hg,ha,hm]
def fLo (o:AOper):Option (AV × MV)->(Nat->Option (List AV))->(Nat->Option (List AV))
 | some (_,m),l=>(match wml o with | .lo s=>upd l s m.1 | _=>l)
 | none,l=>l
def fSh (o:AOper):Option (AV × MV)->LL->LL
 | some (_,m),l=>(match wml o with | .sh=>m.2 | _=>l)
 | none,l=>l
theorem iX (o:AOper) (x:Option (AV × MV)) (σ:AS):(eff o x σ).lo=fLo o x σ.lo/\(eff o x σ).sh=fSh o x σ.sh:=by
 cases x with
 | none=>exact jV _ _ _
 | some r =>
  obtain⟨v,m⟩:=r;have h1:(eff o (some (v,m)) σ).lo=(wrm σ m (wml o)).lo:=by
   show (put (dE (wrm σ m (wml o)) o.dem) o.dst v).lo=_;rw[(jV _ _ _).1,(uR _ _).1]
  have h2:(eff o (some (v,m)) σ).sh=(wrm σ m (wml o)).sh:=by
   show (put (dE (wrm σ m (wml o)) o.dem) o.dst v).sh=_;rw[(jV _ _ _).2,(uR _ _).2]
  rw[h1,h2];unfold fLo fSh
  cases wml o<;>exact⟨rfl,rfl⟩
theorem CF (o p:AOper) (x y:Option (AV × MV)) (σ:AS) (h1:zZ (wrS o) (wrS p)=true) (h2:wml o=.none\/wml p=.none\/wml o≠wml p) :
  eff p y (eff o x σ)=eff o x (eff p y σ):=by
 have hfr:∀ (o:AOper) (x:Option (AV × MV)) (σ τ:AS) (t:Nat),σ.fr t=τ.fr t->(eff o x σ).fr t=(eff o x τ).fr t:=by
  intro o x σ τ t h;have hm:∀ (σ:AS) (m:MV) (ml:ML),(wrm σ m ml).fr=σ.fr:=fun σ m ml=>by cases ml<;>rfl
  have hd:∀ (σ τ:AS) (d:Option Nat),σ.fr t=τ.fr t->(dE σ d).fr t=(dE τ d).fr t:=by
   intro σ τ d h
   cases d with
   | none=>exact h
   | some d =>
    simp only[dE,upd];split
    ·rename_i e;subst e;rw[h]
    ·exact h
  have hp:∀ (σ τ:AS) (d:Option Nat) (v:AV),σ.fr t=τ.fr t->(put σ d v).fr t=(put τ d v).fr t:=by
   intro σ τ d v h
   cases d with
   | none=>exact h
   | some d =>
    simp only[put,upd];split
    ·rfl
    ·exact h
  cases x with
  | none=>exact hp _ _ _ _ h
  | some r =>
   obtain⟨v,m⟩:=r;exact hp _ _ _ _ (hd _ _ _ (by rw[hm,hm];exact h))
 have ext:∀ a b:AS,a.fr=b.fr->a.lo=b.lo->a.sh=b.sh->a=b:=by
  rintro ⟨_,_,_⟩ ⟨_,_,_⟩ h1 h2 h3
  simp only at h1 h2 h3;rw[h1,h2,h3]
 apply ext
 ·funext t
  by_cases ho:t∈wrS o
  ·have hp:t ∉ wrS p:=nO h1 ho
   rw[nN p y _ t hp];exact hfr o x _ _ t (nN p y σ t hp).symm
  ·rw[nN o x _ t ho]
   exact hfr p y _ _ t (nN o x σ t ho)
 ·rw[(iX p y _).1,(iX o x σ).1,(iX o x _).1,(iX p y σ).1]
  rcases x with _ | ⟨_,m⟩<;>rcases y with _ | ⟨_,m'⟩<;>try rfl
  simp only[fLo];cases hwo:wml o<;>cases hwp:wml p<;>try rfl
  rename_i s s';have hne:s≠s':=by
   rintro rfl
   rcases h2 with h | h | h
   ·rw[hwo] at h;cases h
   ·rw[hwp] at h;cases h
   ·rw[hwo,hwp] at h;exact h rfl
  funext t
  simp only[upd];by_cases e1:t=s
  ·subst e1;simp [hne]
  ·simp [e1]
 ·rw[(iX p y _).2,(iX o x σ).2,(iX o x _).2,(iX p y σ).2]
  rcases x with _ | ⟨_,m⟩<;>rcases y with _ | ⟨_,m'⟩<;>try rfl
  simp only[fSh];cases hwo:wml o<;>cases hwp:wml p<;>try rfl
  rcases h2 with h | h | h
  ·rw[hwo] at h;cases h
  ·rw[hwp] at h;cases h
  ·rw[hwo,hwp] at h;exact absurd rfl h
theorem C1 {o p:AOper} (h:DU o p=true) (σ:AS):(cG G o σ).bind (cG G p)=(cG G p σ).bind (cG G o):=by
 unfold DU at h;simp only[Bool.and_eq_true] at h;obtain⟨⟨⟨⟨h1,h2⟩,h3⟩,h4⟩,h5⟩:=h;have hp:∀ x,dec G p (eff o x σ)=dec G p σ:=fun x =>
  oV p σ _ (fun t ht=>nN o x σ t (fun hto=>nO h1 hto ht)) (zY o x σ _ h4)
 have ho:∀ y,dec G o (eff p y σ)=dec G o σ:=fun y =>
  oV o σ _ (fun t ht=>nN p y σ t (fun htp=>nO h3 htp ht)) (zY p y σ _ h5)
 have hw:wml o=.none\/wml p=.none\/wml o≠wml p:=by
  by_cases e:wml o=.none
  ·exact .inl e
  ·by_cases e':wml p=.none
   ·exact .inr (.inl e')
   ·refine .inr (.inr ?_)
    have hpm:wml p=p.ml:=by
     unfold wml;split
     ·rename_i hr;exact absurd (by simp [wml,hr]) e'
     ·rfl
    rw[hpm];unfold vM at h4;simp only[Bool.or_eq_true,beq_iff_eq,bne_iff_ne,ne_eq] at h4;rcases h4 with h | h
    ·exact absurd h e
    ·exact h
 rw[fY o σ,fY p σ];cases hdo:dec G o σ with
 | none =>
  cases hdp:dec G p σ with
  | none=>rfl
  | some y=>simp only[Option.map_some,Option.map_none,Option.bind_some,Option.bind_none,fY,ho,hdo]
 | some x =>
  cases hdp:dec G p σ with
  | none=>simp only[Option.map_some,Option.map_none,Option.bind_some,Option.bind_none,fY,hp,hdp]
  | some y =>
   simp only[Option.map_some,Option.bind_some,fY,hp,ho,hdo,hdp];rw[CF o p x y σ h2 hw]
theorem OE {cells:List AV} {off:Nat} {x y:AV} (hx:cells[off]?=some x) (hd:aH y=aH x):(cells.set off y).map aH=cells.map aH:=by
 rw[List.map_set,hd];apply ext_getElem?;intro j;rw[getElem?_set];split
 ·rename_i h
  subst h;obtain⟨hlt,he⟩:=List.getElem?_eq_some_iff.1 hx;simp [hlt,he]
 ·rfl
theorem PF {agg:Bool} {off n k:Nat} {cells:List AV} {z:Nat} {l:LL} (hx:cells[k]?=some (.sl .own z l)):ldC agg off n (cells.set k (.sl .no z l))=ldC agg off n cells:=by
 have hm:=OE (y:=.sl .no z l) hx rfl;have key:∀ c:List AV,ldC true off n c=if (((c.map aH).drop off).take n).length=n/\(((c.map aH).drop off).take n).all cB=true then some (.agg (((c.map aH).drop off).take n)) else none:=by
  intro c;simp only[ldC,if_true,<- map_drop,<- map_take,length_map,all_map,Function.comp_def]
 cases agg with
 | true=>rw[key,key,hm]
 | false =>
  simp only[ldC,Bool.false_eq_true,if_false];by_cases h:k=off
  ·subst h
   have hlt:=(List.getElem?_eq_some_iff.1 hx).1;have e:(cells.set k (.sl .no z l))[k]?=some (.sl .no z l):=by simp [hlt]
   rw[e,hx];rfl
  ·rw[getElem?_set_ne h]
theorem U3 {d:Nat} {agg:Bool} {n i k:Nat} {sh:LL} {cells:List AV} {z:Nat} {l:LL} (hi:sh[i]?=some cells) (hx:cells[k]?=some (.sl .own z l)) (xs:List AV) (a:Option (List AV)) :
  (kf0 d .sh (.ld agg n) xs (a,sh.set i (cells.set k (.sl .no z l)))).map (fun r=>r.1)=(kf0 d .sh (.ld agg n) xs (a,sh)).map (fun r=>r.1):=by
 match xs with
 | []=>rfl
 | _ :: _ :: _=>rfl
 | [x] =>
  cases x<;>try rfl
  ·rename_i o off
   simp only[kf0,if_true];rw[getElem?_set];split
   ·rename_i h
    subst h;have hlt:=(List.getElem?_eq_some_iff.1 hi).1;rw[if_pos hlt,hi];simp only[Option.bind_some,PF hx,Option.map_map,Function.comp_def]
   ·cases sh[o]? with
    | none=>rfl
    | some c=>simp only[Option.bind_some,Option.map_map,Function.comp_def]
  ·simp only[kf0,Option.map_map,Function.comp_def]
theorem BT {o p:AOper} (h:QqQ o p=true) (σ:AS):(cG G o σ).bind (cG G p)=(cG G p σ).bind (cG G o):=by
 unfold QqQ at h;simp only[Bool.and_eq_true,beq_iff_eq] at h;obtain⟨⟨⟨⟨⟨hk,ho⟩,hp⟩,h1⟩,h2⟩,h3⟩:=h;have hkk:o.k=.ldo/\∃ agg n,p.k=.ld agg n:=by
  split at hk
  ·rename_i a b;exact⟨a,_,_,b⟩
  ·cases hk
 obtain⟨hko,agg,n,hkp⟩:=hkk;have hwp:wml p=.none:=by simp [wml,hkp,roK]
 have hso:∀ y,dec G o (eff p y σ)=dec G o σ:=fun y =>
  oV o σ _ (fun t ht=>nN p y σ t (fun htp=>nO h3 htp ht)) (zY p y σ _ (by rw[hwp];rfl))
 have effp:∀ v m m' ρ,eff p (some (v,m)) ρ=eff p (some (v,m')) ρ:=by
  intro v m m' ρ;simp only[eff,hwp];rfl
 rw[fY o σ,fY p σ];cases hdo:dec G o σ with
 | none =>
  cases hdp:dec G p σ with
  | none=>rfl
  | some y=>simp only[Option.map_some,Option.map_none,Option.bind_some,Option.bind_none,fY,hso,hdo]
 | some x =>
  have key:∀ ρ,(dec G p (eff o x σ)).map (eff p · ρ)=(dec G p σ).map (eff p · ρ):=by
   intro ρ;have hfr:∀ t∈rdS p,(eff o x σ).fr t=σ.fr t:=fun t ht=>nN o x σ t (fun hto=>nO h1 hto ht)
   cases x with
   | none =>
    rw[oV p σ _ hfr]
    have:=jV σ o.dst .undef
    rw[hp];simp only[rdm];exact Prod.ext rfl this.2
   | some r =>
    obtain⟨v,m⟩:=r;have hmem:rdm (eff o (some (v,m)) σ) .sh=(none,m.2):=by
     simp only[rdm];refine Prod.ext rfl ?_;have hwo:wml o=.sh:=by simp [wml,hko,roK,ho]
     rw[(iX o _ σ).2];simp only[fSh,hwo]
    have hm:m.2=σ.sh\/∃ i k cells z l,σ.sh[i]?=some cells/\cells[k]?=some (.sl .own z l)/\m.2=σ.sh.set i (cells.set k (.sl .no z l)):=by
     unfold dec at hdo
     split at hdo
     ·rw[hko,ho] at hdo
      simp only[kf] at hdo;obtain⟨q,hq,e⟩:=Option.map_eq_some_iff.1 hdo;simp only[Option.some.injEq] at e;subst e;generalize o.args.map (ev σ.fr)=xs at hq
      match xs,hq with
      | [],hq=>cases hq
      | _ :: _ :: _,hq=>simp [kf0] at hq
      | [x],hq =>
       cases x<;>simp only[kf0,reduceCtorEq] at hq
       rename_i i k;simp only[if_true,rdm] at hq;obtain⟨cells,q1,q2⟩:=Option.bind_eq_some_iff.1 hq
       split at q2
       ·obtain⟨y,q3,q4⟩:=Option.bind_eq_some_iff.1 q2
        split at q4
        ·rename_i z l
         simp only[Option.some.injEq,Prod.mk.injEq] at q4
         right
         exact⟨i,k,cells,z,l,q1,q3,by rw[<- q4.2]⟩
        ·simp only[Option.some.injEq,Prod.mk.injEq] at q4
         left;rw[<- q4.2]
        ·cases q4
       ·cases q2
     ·cases hdo
     ·cases hdo
    have hg:eT (eff o (some (v,m)) σ).fr p.guard=eT σ.fr p.guard:=by
     cases hgd:p.guard with
     | none=>rfl
     | some q =>
      obtain⟨s,b⟩:=q
      have:=hfr s (by simp [rdS,hgd])
      simp [eT,this]
    have ha:p.args.map (ev (eff o (some (v,m)) σ).fr)=p.args.map (ev σ.fr):=by
     apply map_congr_left;intro r hr
     cases r with
     | c x=>rfl
     | t s=>exact hfr s (by simp [rdS,BJ hr])
    unfold dec;rw[hg,ha,hp,hmem,hkp];cases hgv:eT σ.fr p.guard with
    | none=>rfl
    | some b =>
     cases b with
     | false=>rfl
     | true =>
      simp only[kf];have hL:(kf0 (p.dst.getD 0) .sh (.ld agg n) (p.args.map (ev σ.fr)) (none,m.2)).map (fun r=>r.1)=(kf0 (p.dst.getD 0) .sh (.ld agg n) (p.args.map (ev σ.fr)) (rdm σ .sh)).map (fun r=>r.1):=by
       rcases hm with hm | ⟨i,k,cells,z,l,q1,q2,q3⟩
       ·rw[hm];rfl
       ·rw[q3];exact U3 q1 q2 _ _
      cases hA:kf0 (p.dst.getD 0) .sh (.ld agg n) (p.args.map (ev σ.fr)) (none,m.2) with
      | none =>
       rw[hA] at hL;cases hB:kf0 (p.dst.getD 0) .sh (.ld agg n) (p.args.map (ev σ.fr)) (rdm σ .sh) with
       | none=>rfl
       | some r=>rw[hB] at hL;cases hL
      | some r =>
       rw[hA] at hL;cases hB:kf0 (p.dst.getD 0) .sh (.ld agg n) (p.args.map (ev σ.fr)) (rdm σ .sh) with
       | none=>rw[hB] at hL;cases hL
       | some r2 =>
        rw[hB] at hL;simp only[Option.map_some,Option.some.injEq] at hL ⊢;obtain⟨v1,m1⟩:=r;obtain⟨v2,m2⟩:=r2;simp only[] at hL;subst hL;exact effp _ _ _ _
  simp only[Option.map_some,Option.bind_some,fY];rw[key];cases hdp:dec G p σ with
  | none=>rfl
  | some y =>
   simp only[Option.map_some,Option.bind_some,fY,hso,hdo];rw[CF o p x y σ h2 (.inr (.inl hwp))]
theorem xJ {o p:AOper} (h:tH o p=true) (σ:AS):(cG G o σ).bind (cG G p)=(cG G p σ).bind (cG G o):=by
 unfold tH at h;simp only[Bool.or_eq_true] at h;rcases h with (h | h) | h
 ·exact C1 h σ
 ·exact BT h σ
 ·exact (BT h σ).symm
end
end Go.Av
