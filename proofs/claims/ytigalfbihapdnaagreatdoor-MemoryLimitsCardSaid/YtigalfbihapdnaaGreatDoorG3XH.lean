/- Finding a key, by both packages. No conditions. Putting an entry, by both packages. No conditions. Putting an entry by the memory package. No conditions. r3.Normalize and r3.Concat that hand out an object of their own. No conditions. Fragments that are nested, out of numbers. No conditions. A target of a source out of numbers: the same tags, other texts. No conditions. Entries and memories out of numbers. No conditions. The law's entries and memories, equal entries, the fixed example. No conditions. -/
import Derived.Test.YtigalfbihapdnaaGreatDoorG3XG
import Derived.Test.YtigalfbihapdnaaGreatDoorG3XB
set_option linter.unusedSimpArgs false
set_option linter.unusedVariables false
set_option linter.unusedSectionVars false
set_option maxRecDepth 100000
set_option maxHeartbeats 16000000
namespace Go.Av
open Go.Nt
theorem key_joinV {e:En} (h:VE e):joinE e=keyE e:=(key_join ((vE_iff e).2 h)).symm
theorem ascF_some:∀ (m:List En) (k:Bs),ascF (some k) m=true↔(∀ e∈m,VE e)∧Sr m∧∀ e∈m,ltB k (keyE e)=true
 | [],k=>by simp [ascF,Sr]
 | e :: m,k=>by
  show (okE _ _ && _)=true↔_
  rw[Bool.and_eq_true,ascF_some m (joinE e)]
  unfold okE
  simp only[Bool.and_eq_true,decide_eq_true_eq]
  constructor
  ·rintro ⟨⟨h1,h2⟩,h3,h4,h5⟩
   have hv:=(vE_iff e).1 h1
   rw[key_joinV hv] at h2 h5
   refine⟨fun x hx=>?_,List.pairwise_cons.2 ⟨fun x hx=>h5 x hx,h4⟩,fun x hx=>?_⟩
   ·rcases List.mem_cons.1 hx with rfl | hx
    ·exact hv
    ·exact h3 x hx
   ·rcases List.mem_cons.1 hx with rfl | hx
    ·exact h2
    ·exact ltB_tr _ _ _ h2 (h5 x hx)
  ·rintro ⟨h1,h2,h3⟩
   have hv:=h1 e (List.mem_cons_self ..)
   rw[key_joinV hv]
   obtain⟨p1,p2⟩:=List.pairwise_cons.1 h2
   exact⟨⟨(vE_iff e).2 hv,h3 e (List.mem_cons_self ..)⟩,fun x hx=>h1 x (List.mem_cons_of_mem _ hx),p2,p1⟩
theorem ascF_none (m:List En):ascF none m=true↔Mem m:=by
 cases m with
 | nil=>simp [ascF,mem_nil]
 | cons e m =>
  show (okE _ _ && _)=true↔_
  rw[Bool.and_eq_true,ascF_some m (joinE e)]
  unfold okE
  simp only[Bool.and_true,decide_eq_true_eq]
  constructor
  ·rintro ⟨h1,h3,h4,h5⟩
   have hv:=(vE_iff e).1 h1
   rw[key_joinV hv] at h5
   refine⟨fun x hx=>?_,List.pairwise_cons.2 ⟨fun x hx=>h5 x hx,h4⟩⟩
   rcases List.mem_cons.1 hx with rfl | hx
   ·exact hv
   ·exact h3 x hx
  ·rintro ⟨h1,h2⟩
   have hv:=h1 e (List.mem_cons_self ..)
   rw[key_joinV hv]
   obtain⟨p1,p2⟩:=List.pairwise_cons.1 h2
   exact⟨(vE_iff e).2 hv,fun x hx=>h1 x (List.mem_cons_of_mem _ hx),p2,p1⟩
theorem okM_iff (m:List En):okM m=true↔m.length≤1024∧Mem m:=by
 unfold okM
 rw[Bool.and_eq_true,ascF_none,decide_eq_true_eq]
def plc (m:List En) (k:Bs):Nat:=(bel k m).length
theorem mem_split {m:List En} (h:Sr m) (k:Bs):∃ r,m=bel k m++r∧∀ e∈r,ltB (keyE e) k=false:=by
 cases hg:getM m k with
 | none =>
  refine⟨abv k m,split_none h hg,fun e he=>?_⟩
  exact ltB_asym (mem_abv.1 he).2
 | some x =>
  refine⟨x :: abv k m,split_some h hg,fun e he=>?_⟩
  rcases List.mem_cons.1 he with rfl | he
  ·rw[(getM_some hg).2];exact ltB_irr k
  ·exact ltB_asym (mem_abv.1 he).2
theorem mem_map {m:List En} (h:Mem m):m.map joinE=m.map keyE:=List.map_congr_left fun e he=>key_joinV (h.1 e he)
theorem lb_key {m:List En} (h:Mem m) (k:Bs):isLb (m.map keyE) k (plc m k):=by
 obtain⟨r,e,hr⟩:=mem_split h.2 k
 have hl:(bel k m).length≤m.length:=by
  have:=congrArg List.length e
  rw[List.length_append] at this;omega
 refine⟨by rw[List.length_map];exact hl,fun i x hx=>?_⟩
 rw[List.getElem?_map] at hx
 obtain⟨y,hy,rfl⟩:=Option.map_eq_some_iff.1 hx
 unfold plc
 by_cases q:i < (bel k m).length
 ·rw[decide_eq_true q]
  rw[e,List.getElem?_append_left q] at hy
  exact (mem_bel.1 (List.mem_of_getElem? hy)).2
 ·rw[decide_eq_false q]
  rw[e,List.getElem?_append_right (by omega)] at hy
  exact hr y (List.mem_of_getElem? hy)
theorem plc_le {m:List En} (h:Mem m) (k:Bs):plc m k≤m.length:=by have:=(lb_key h k).1;simpa using this
theorem at_some {m:List En} (h:Mem m) {k:Bs} {x:En} (hg:getM m k=some x):m[plc m k]?=some x:=by
 have e:=split_some h.2 hg
 have:(bel k m++x :: abv k m)[(bel k m).length]?=some x:=by simp
 unfold plc
 rw[← e] at this
 exact this
theorem at_none {m:List En} (h:Mem m) {k:Bs} (hg:getM m k=none):∀ y,m[plc m k]?=some y→keyE y≠k:=by
 intro y hy q
 have:=getM_mem h.2 (List.mem_of_getElem? hy)
 rw[q,hg] at this
 cases this
def fndI (m:List En) (k:Bs):Int:=if okM m=true then (match getM m k with | some _=>(plc m k:Nat) | none=>-1) else -1
theorem k35 (m:List En) (hl:m.length≤2000) (hB:∀ e∈m,BE e) (k:Bs):G0 35 [.sl .no 8 (ens m),.str k] []=some (.int .i64 (fndI m k),[]):=by
 have a1:=k66 m hl hB
 unfold fndI
 refine contract F35 rfl rfl rfl ?_
 cases hq:okM m with
 | false =>
  rw[hq] at a1
  simp only[Bool.false_eq_true,if_false] at a1 ⊢
  have a2:=k74 [] k (by simp) 0 ⟨by simp,fun h x hx=>by simp at hx⟩
  simp only[F35,go_sem,a1,a2,Bool.not_false]
 | true =>
  rw[hq] at a1
  simp only[if_true] at a1 ⊢
  obtain⟨h1,h2⟩:=(okM_iff m).1 hq
  have hlb:=lb_key h2 k
  rw[mem_map h2] at a1
  have a2:=k74 (m.map keyE) k (by simp;omega) (plc m k) hlb
  have h0:(0:Int)≤((plc m k:Nat):Int):=by omega
  have hle:=plc_le h2 k
  cases hg:getM m k with
  | some x =>
   have e1:=at_some h2 hg
   have e2:(m.map keyE)[plc m k]?=some k:=by rw[List.getElem?_map,e1];simp [(getM_some hg).2]
   have hr:=strs_at e2
   have hlt:plc m k < m.length:=by
    by_cases q:plc m k < m.length
    ·exact q
    ·rw[List.getElem?_eq_none (by omega)] at e1;cases e1
   have hne:¬ ((plc m k:Nat):Int)=(m.length:Int):=by omega
   have hkk:(k != k)=false:=by simp
   simp only[F35,go_sem,a1,a2,Bool.not_true,strs_len,List.length_map,hne,h0,hr,hkk]
  | none =>
   by_cases q:plc m k < m.length
   ·have e1:m[plc m k]?=some m[plc m k]:=List.getElem?_eq_getElem q
    have hk:=at_none h2 hg _ e1
    generalize m[plc m k]=y at e1 hk
    have e2:(m.map keyE)[plc m k]?=some (keyE y):=by rw[List.getElem?_map,e1];rfl
    have hr:=strs_at e2
    have hne:¬ ((plc m k:Nat):Int)=(m.length:Int):=by omega
    have hkk:(keyE y != k)=true:=by simpa using hk
    simp only[F35,go_sem,a1,a2,Bool.not_true,strs_len,List.length_map,hne,h0,hr,hkk]
   ·have he:((plc m k:Nat):Int)=(m.length:Int):=by omega
    simp only[F35,go_sem,a1,a2,Bool.not_true,strs_len,List.length_map,he]
end Go.Av
namespace Go.Av
open Go.Nt
attribute [-go_sem] appSA_ss mklA_int
theorem ens_app (a b:List En):ens (a++b)=ens a++ens b:=by simp [ens]
theorem ens_one (e:En):[[AV.sl .no 3 (tks e.S),.sl .no 3 (tks e.T),.str e.p,.str e.n,.str e.a,.str e.j,.int .i64 e.c,.int .i64 e.o]]=ens [e]:=rfl
theorem ens_nil:ens []=[]:=rfl
theorem appX {md o:Own} (hm:md≠.no) (X Y:List En) (h:X.length+Y.length≤100000):appA false 8 128 (.sl md 8 (ens X)) (.sl o 8 (ens Y))=some (.sl .own 8 (ens (X++Y))):=by
 rw[appA_gen _ _ hm _ _ (by decide),ens_len,ens_len,if_pos (appOK_le (by decide) (by omega)),ens_app]
def putE (m:List En) (e:En):Int:=if okM m=true then (if vE e=0 then (if getM m (keyE e)=none∧1024≤m.length then 3 else 0) else vE e) else 1
def putV (m:List En) (e:En):List En:=if putE m e=0 then putM m e else []
theorem putE_1 {m:List En} {e:En} (h:okM m=false):putE m e=1∧putV m e=[]:=by
 have:putE m e=1:=by unfold putE;rw[h];rfl
 exact⟨this,by unfold putV;rw[this];rfl⟩
theorem putE_2 {m:List En} {e:En} (h:okM m=true) (hv:vE e≠0):putE m e=vE e∧putV m e=[]:=by
 have:putE m e=vE e:=by unfold putE;rw[if_pos h,if_neg hv]
 exact⟨this,by unfold putV;rw[this,if_neg hv]⟩
theorem putE_3 {m:List En} {e:En} (h:okM m=true) (hv:vE e=0) (hg:getM m (keyE e)=none) (hc:1024≤m.length):putE m e=3∧putV m e=[]:=by
 have:putE m e=3:=by unfold putE;rw[if_pos h,if_pos hv,if_pos ⟨hg,hc⟩]
 exact⟨this,by unfold putV;rw[this];rfl⟩
theorem putE_0 {m:List En} {e:En} (h:okM m=true) (hv:vE e=0) (hg:¬ (getM m (keyE e)=none∧1024≤m.length)):putE m e=0∧putV m e=putM m e:=by
 have:putE m e=0:=by unfold putE;rw[if_pos h,if_pos hv,if_neg hg]
 exact⟨this,by unfold putV;rw[this];rfl⟩
theorem pt_some {m:List En} (hm:Mem m) {e x:En} (hg:getM m (keyE e)=some x):m.take (plc m (keyE e))++[e]++m.drop (plc m (keyE e)+1)=putM m e:=by
 have hs:=split_some hm.2 hg
 unfold putM plc
 generalize bel (keyE e) m=B at *
 generalize abv (keyE e) m=A at *
 subst hs
 simp
theorem pt_none {m:List En} (hm:Mem m) {e:En} (hg:getM m (keyE e)=none):m.take (plc m (keyE e))++[e]++m.drop (plc m (keyE e))=putM m e:=by
 have hs:=split_none hm.2 hg
 unfold putM plc
 generalize bel (keyE e) m=B at *
 generalize abv (keyE e) m=A at *
 subst hs
 simp
theorem plc_lt {m:List En} (hm:Mem m) {k:Bs} {x:En} (hg:getM m k=some x):plc m k < m.length:=by
 have e1:=at_some hm hg
 by_cases q:plc m k < m.length
 ·exact q
 ·rw[List.getElem?_eq_none (by omega)] at e1;cases e1
end Go.Av
namespace Go.Av
open Go.Nt
attribute [-go_sem] appSA_ss mklA_int
theorem cls_split (m:List En) (i:Nat):cls m=cls (m.take i)++cls (m.drop i):=by rw[← cls_app,List.take_append_drop]
theorem cls_one (e:En):cls [e]=rowE e:=by simp [cls,ens]
theorem take_len {m:List En} {i:Nat} (h:i≤m.length):(cls (m.take i)).length=i*8:=by rw[cls_len,List.length_take,Nat.min_eq_left h]
theorem putC_set (m:List En) (i:Nat) (e:En) (hi:i < m.length):putC (i*8) (rowE e) (cls m)=some (cls (m.take i++[e]++m.drop (i+1))):=by
 have hd:m.drop i=m[i] :: m.drop (i+1):=List.drop_eq_getElem_cons hi
 have:=putC_app (cls (m.take i)) (cls (m.drop i)) (rowE e) (by rw[cls_len,row_len,List.length_drop];omega)
 rw[take_len (by omega),← cls_split] at this
 rw[this,hd,cls_cons,row_len,cls_app,cls_app,cls_one]
 congr 2
theorem set_len {m:List En} {i:Nat} {e:En} (hi:i < m.length):(m.take i++[e]++m.drop (i+1)).length=m.length:=by simp;omega
theorem ins_len {m:List En} {i:Nat} {e:En} (hi:i≤m.length):(m.take i++[e]++m.drop i).length=m.length+1:=by simp;omega
theorem insX_cls (m:List En) (i:Nat) (e:En) (hi:i≤m.length):insX 8 i (cls m) [rowE e]=cls (m.take i++[e]++m.drop i):=by
 have h1:(cls m).take (i*8)=cls (m.take i):=by
  rw[cls_split m i,← take_len hi,List.take_left]
 have h2:(cls m).drop (i*8)=cls (m.drop i):=by
  conv=>lhs;rw[cls_split m i]
  rw[← take_len hi,List.drop_left]
 unfold insX
 rw[h1,h2,cls_app,cls_app,cls_one]
 simp
theorem k70 (m:List En) (hl:m.length≤2000) (k i:Nat) (e:En) (hi:i≤m.length):G0 70 [.ss k 0 m.length 8,.int .i64 i,.sl .full 8 [rowE e]] (List.replicate k dead++[cls m])=some (.ss (k+1) 0 (m.length+1) 8,List.replicate (k+1) dead++[cls (m.take i++[e]++m.drop i)]):=by
 by_cases q:i < m.length
 ·refine Gx_base ?_
  show ((List.replicate k dead++[cls m])[k]?).bind (fun cells=>if 8=8∧8=8∧insOK 8 128 m.length (i:Int) cells [rowE e]=true then some (AV.ss (List.replicate k dead++[cls m]).length 0 (m.length+([]:List (List AV)).length+1) 8,(List.replicate k dead++[cls m]).set k dead++[insX 8 (i:Int).toNat cells [rowE e]]) else none)=_
  rw[rD]
  simp only[Option.bind_some]
  have hok:insOK 8 128 m.length (i:Int) (cls m) [rowE e]=true:=by
   unfold insOK
   simp only[Bool.and_eq_true,decide_eq_true_eq]
   refine⟨⟨⟨⟨⟨by omega,by omega,(cls_len m).symm⟩,cls_flat m⟩,rfl⟩,rfl⟩,?_⟩
   simp only[List.length_singleton]
   constructor<;>omega
  rw[if_pos ⟨trivial,trivial,hok⟩,rL,rS,rN,Int.toNat_natCast,insX_cls m i e (by omega)]
  rfl
 ·have hin:i=m.length:=by omega
  subst hin
  have hok:insOK 8 128 m.length (m.length:Int) (cls m) [rowE e]=false:=by
   have hf:¬ ((0:Int)≤(m.length:Int)∧(m.length:Int) < (m.length:Int)∧m.length*8=(cls m).length):=fun z=>by omega
   unfold insOK
   rw[decide_eq_false hf]
   rfl
  have hB:B0 70 [.ss k 0 m.length 8,.int .i64 m.length,.sl .full 8 [rowE e]] (List.replicate k dead++[cls m])=none:=by
   show ((List.replicate k dead++[cls m])[k]?).bind (fun cells=>if 8=8∧8=8∧insOK 8 128 m.length (m.length:Int) cells [rowE e]=true then _ else none)=none
   rw[rD]
   simp only[Option.bind_some,hok]
   rfl
  have ha:=appE m e k (by omega)
  simp only[rowE] at ha
  have h0:(0:Int)≤(m.length:Int):=by omega
  have e1:m.take m.length++[e]++m.drop m.length=m++[e]:=by simp
  rw[e1]
  refine contract F70 hB rfl rfl ?_
  by_cases hz:m.length=0
  ·have hz':(m.length:Int)=0:=by omega
   simp only[F70,rowE,go_sem,h0,ha,Int.le_refl,true_or,hz']
  ·have hz':¬ (m.length:Int)=0:=by omega
   simp only[F70,rowE,go_sem,h0,ha,Int.le_refl,hz',Int.lt_irrefl,or_self]
theorem rowsC_n {m:List En} {n:Nat} (h:m.length=n):rowsC 0 n 8 (cls m)=some (ens m):=by rw[← h];exact rowsC_all m
theorem k27 (m:List En) (hl:m.length≤2000) (hB:∀ e∈m,BE e) (e:En) (he:BE e):G0 27 [.sl .no 8 (ens m),.agg (rowE e)] []=some (.tup [.sl .no 8 (ens (putV m e)),.int .i64 (putE m e)],[]):=by
 have a1:=k66 m hl hB
 refine contract F27 rfl rfl rfl ?_
 cases hq:okM m with
 | false =>
  rw[hq] at a1
  simp only[Bool.false_eq_true,if_false] at a1
  rw[(putE_1 hq).1,(putE_1 hq).2]
  simp only[F27,rowE,go_sem,a1,Bool.not_false]
  rfl
 | true =>
  rw[hq] at a1
  simp only[if_true] at a1
  obtain⟨h1,h2⟩:=(okM_iff m).1 hq
  rw[mem_map h2] at a1
  have a2:=k23 e he
  simp only[rowE] at a2
  by_cases hv:vE e=0
  case neg =>
   rw[(putE_2 hq hv).1,(putE_2 hq hv).2]
   simp only[F27,rowE,go_sem,a1,a2,Bool.not_true,ne_eq,hv,not_false_eq_true,decide_true]
   rfl
  have a3:=k64 e he
  rw[← key_join hv] at a3
  simp only[rowE] at a3
  have a4:=k67 (m.map keyE) (keyE e) (by simp;omega) (plc m (keyE e)) (lb_key h2 (keyE e))
  have a5:=k68 m hl hB
  have a6:=k69 e he
  simp only[rowE] at a6
  have h0:(0:Int)≤((plc m (keyE e):Nat):Int):=by omega
  have hle:=plc_le h2 (keyE e)
  cases hg:getM m (keyE e) with
  | some x =>
   have q:=plc_lt h2 hg
   have q':((plc m (keyE e):Nat):Int) < (m.length:Int):=by omega
   have ex:=at_some h2 hg
   have e2:(m.map keyE)[plc m (keyE e)]?=some (keyE e):=by rw[List.getElem?_map,ex];simp [(getM_some hg).2]
   rw[e2,decide_eq_true rfl] at a4
   have hp:=putC_set m (plc m (keyE e)) e q
   have hr:=rowsC_n (set_len (e:=e) q)
   rw[pt_some h2 hg] at hp hr
   rw[putC_L _ _ _ (by simp [rowE])] at hp
   simp only[rowE] at hp
   rw[(putE_0 hq hv (by rw[hg];simp)).1,(putE_0 hq hv (by rw[hg];simp)).2]
   simp only[F27,rowE,go_sem,a1,a2,Bool.not_true,ne_eq,hv,not_true_eq_false,decide_false,a3,a4,a5,a6,ens_len,q',h0,Int.toNat_natCast,Nat.zero_add,rD,rS,cls_blk,hp,hr,Nat.zero_le]
  | none =>
   have e2:¬ (m.map keyE)[plc m (keyE e)]?=some (keyE e):=by
    intro z
    rw[List.getElem?_map] at z
    obtain⟨y,y1,y2⟩:=Option.map_eq_some_iff.1 z
    exact at_none h2 hg _ y1 y2
   rw[decide_eq_false e2] at a4
   by_cases hc:1024≤m.length
   ·have hc':(1024:Int)≤(m.length:Int):=by omega
    rw[(putE_3 hq hv hg hc).1,(putE_3 hq hv hg hc).2]
    simp only[F27,rowE,go_sem,a1,a2,Bool.not_true,Bool.not_false,ne_eq,hv,not_true_eq_false,decide_false,a3,a4,ens_len,hc']
    rfl
   ·have hc':¬ (1024:Int)≤(m.length:Int):=by omega
    have a7:=k70 m hl m.length (plc m (keyE e)) e hle
    have hr:=rowsC_n (ins_len (e:=e) hle)
    rw[pt_none h2 hg] at a7 hr
    simp only[rowE] at a7
    rw[(putE_0 hq hv (by simp;omega)).1,(putE_0 hq hv (by simp;omega)).2]
    simp only[F27,rowE,go_sem,a1,a2,Bool.not_true,Bool.not_false,ne_eq,hv,not_true_eq_false,decide_false,a3,a4,a5,a6,mks8,ens_len,hc',a7,rD,hr,cls_blk,Nat.zero_le]
end Go.Av
namespace Go.Av
open Go.Nt
end Go.Av
namespace Go.Av
open Go.Nt
end Go.Av
namespace Go.Av
open Go.Nt
end Go.Av
namespace Go.Av
open Go.Nt
def GE (e:En):Prop:=VE e∧BE e
end Go.Av
namespace Go.Av
open Go.Nt
def MG (m:List En):Prop:=Mem m∧∀ e∈m,GE e
theorem MG.nil:MG []:=⟨mem_nil,fun e h=>by cases h⟩
theorem MG.be {m:List En} (h:MG m):∀ e∈m,BE e:=fun e he=>(h.2 e he).2
theorem MG.put {m:List En} (h:MG m) {e:En} (he:GE e):MG (putM m e):=by
 refine⟨mem_putM h.1 he.1,fun z hz=>?_⟩
 rcases mem_put.1 hz with q | q
 ·rw[q];exact he
 ·exact h.2 z q.1
theorem MG.ok {m:List En} (h:MG m) (hl:m.length≤1024):okM m=true:=(okM_iff m).2 ⟨hl,h.1⟩
theorem MG.putE {m:List En} (h:MG m) (hl:m.length < 1024) {e:En} (he:GE e):Go.Av.putE m e=0∧putV m e=putM m e:=
 putE_0 (h.ok (by omega)) ((vE_iff e).2 he.1) (fun q=>by have:=q.2;omega)
def ek:En:=⟨[(1,[83,97,118,101],0)],[(1,[83,105,99,104,101,114,110],0)],[],[120],[],[],0,1⟩
theorem ek_v:vE ek=0:=by decide +kernel
theorem ek_ge:GE ek:=⟨(vE_iff ek).1 ek_v,by decide,by decide +kernel,by decide,by decide +kernel,by decide,by decide,by decide,by decide⟩
theorem ek_key:keyE ek=[83,97,118,101,10,10,120]:=by decide +kernel
theorem mg1 {e:En} (h:GE e):MG [e]:=by
 have:=MG.nil.put h
 exact this
theorem k20:G0 20 [] []=some (.bool true,[]):=by
 have a1:=k27 [] (by simp) MG.nil.be ek ek_ge.2
 rw[(MG.nil.putE (by simp) ek_ge).1,(MG.nil.putE (by simp) ek_ge).2] at a1
 have e1:putM [] ek=[ek]:=rfl
 rw[e1,ens_nil] at a1
 have hm:=mg1 ek_ge
 have a2:=k24 ek ek_ge.2
 rw[ek_key] at a2
 have a3:=k35 [ek] (by simp) hm.be [83,97,118,101,10,10,120]
 have a4:=k35 [ek] (by simp) hm.be [83,97,118,101]
 have hg:getM [ek] [83,97,118,101,10,10,120]=some ek:=by rw[getM_cons,if_pos ek_key]
 have hg2:getM [ek] [83,97,118,101]=none:=by rw[getM_cons,if_neg (by rw[ek_key];decide)];rfl
 have hp:plc [ek] [83,97,118,101,10,10,120]=0:=by
  have:=plc_lt hm.1 hg
  simp only[List.length_singleton] at this
  omega
 have f3:fndI [ek] [83,97,118,101,10,10,120]=0:=by unfold fndI;rw[if_pos (hm.ok (by simp)),hg];simp only[hp];rfl
 have f4:fndI [ek] [83,97,118,101] = -1:=by unfold fndI;rw[if_pos (hm.ok (by simp)),hg2]
 rw[f3] at a3
 rw[f4] at a4
 have hr:rowE ek=[.sl .no 3 [[.int .i64 1,.str [83,97,118,101],.int .i64 0]],.sl .no 3 [[.int .i64 1,.str [83,105,99,104,101,114,110],.int .i64 0]],.str [],.str [120],.str [],.str [],.int .i64 0,.int .i64 1]:=rfl
 rw[hr] at a1 a2
 have hn:(ens [ek]).length=1:=rfl
 refine contract F20 rfl rfl rfl ?_
 simp only[F20,go_sem,a1,a2,a3,a4,hn,beq_self_eq_true]
end Go.Av
