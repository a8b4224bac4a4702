/- exchange.Format as a given contract, and the table above it. No conditions. Decimal numbers and beginnings of texts, by both packages. No conditions. The reader of exchange: fields, lines, ends of entries. No conditions. The reader of exchange: a line, the end of an entry. No conditions. exchange.Parse. No conditions. The reference's lines and fields. No conditions. The reference's lines. No conditions. The reference's Parse of a memory. No conditions. -/
import Derived.Test.YtmjfblcmbcfkcaaGreatDoorG1XI
import Derived.Test.YtmjfblcmbcfkcaaGreatDoorG1Sx
import Derived.Test.YtmjfblcmbcfkcaaGreatDoorG1PG
import Derived.Test.YtmjfblcmbcfkcaaGreatDoorG1XF
import Derived.Test.YtmjfblcmbcfkcaaGreatDoorG1XB
import Derived.Test.YtmjfblcmbcfkcaaGreatDoorG1XH
open List
set_option linter.unusedSimpArgs false
set_option linter.unusedVariables false
set_option linter.unusedSectionVars false
set_option maxRecDepth 100000
set_option maxHeartbeats 16000000
namespace Go.Av
open Go.Proofs Go.RowKit Go.Nt
set_option maxHeartbeats 4000000
theorem fm_calls {m:List En} (h:FOK m) {S0:Nat->Nat->Prop} {w:World} (hE:Ent S0 w) {v:Value} (hv:RepF S0 w (.sl .no 8 (ens m)) v) :
  Calls Tryz.prog 17 #[v] w fun e w'=>e=.returned (.tuple #[.string ⟨(fmM m).1.toArray⟩,.int .i64 (fmM m).2])/\Below w.heap.size w w':=by
 have hchk:∀ W:World,Below w.heap.size w W->Calls Tryz.prog 32 #[v] W fun e w'=>e=.returned (.int .i64 (chkM m))/\Below W.heap.size W w':=fun W hW=>by
  have hE':=hE.next hW;refine (pure_call (kChk m (by have:=h.l;omega) h.b) ent32 hE'.lt hE'.gl (vs:=#[v]) ⟨RepF.mono (fun b o hs=>⟨hs,hE.cell hW b o hs⟩) _ _ hv,trivial⟩).mono ?_
  rintro e w' ⟨u,_,_,_,rfl,h1,h2⟩
  have h1:u=.int .i64 (chkM m):=h1;exact⟨by rw[h1],h2⟩
 have hl:=h.l;by_cases hc:chkM m=0
 ·obtain⟨h1,h2⟩:=(chkM_0 m).1 hc
  obtain⟨h3,h4⟩:=h.c hc;rw[fmM_ok h2 h1 h4];rw[hc] at hchk;obtain⟨A,c,q1,q2,_,_,q3⟩:∃ A c,v=.slice A (ens m).length c/\(ens m).length<=c/\(Own.no=.full->c=(ens m).length)/\Own.no≠.own/\(ens m=[]\/∃ b o,A=some ⟨b,o,none⟩/\RepR S0 w 8 (ens m) b o):=hv;rw[ens_len] at q1 q2;rcases q3 with q3 | ⟨b,o,q3,q4⟩
  ·have hm:m=[]:=by simpa [ens] using q3
   subst hm;exact fmt_x [] w v A 0 0 c q1 (fun z=>absurd rfl z) q2 (by simp) h4 (fun i=>txK_len (by simp) h2.1 i) hchk (it34 0 (by decide) hE) (fun i e hi=>by simp at hi)
  ·refine fmt_x m w v A b o c q1 (fun _=>q3) q2 (by omega) h4 (fun i=>txK_len hl h2.1 i) hchk (it34 m.length (by omega) hE) (fun i e hi=>?_)
   have hm:=mem_of_getElem? hi;obtain⟨_,q5⟩:=q4.get (i:=i) (e:=rowE e) (by simp [ens,hi]);exact row_x hE (h2.1 e hm) (h.b e hm) (h3 e hm) q5
 ·have:fmM m=([],chkM m):=by unfold fmM;rw[if_pos hc]
  rw[this];exact fmt_e v w (chkM m) hc (hchk w (Below.refl _ _))
theorem fm_sem {m:List En} (h:FOK m):SemCall Tryz.prog 17 [.sl .no 8 (ens m)] [] (.tup [.str (fmM m).1,.int .i64 (fmM m).2]) []:=by
 intro kd β bs S0 O0 w vs hent hargs;obtain⟨_,h3,h4,h5,h6⟩:=hent;obtain⟨l⟩:=vs
 match l,hargs with
 | [v],⟨hv,_⟩ =>
  have hE:Ent S0 w:=⟨fun b o hs=>(h3 b o hs).1,h6⟩
  refine (fm_calls h hE hv).mono ?_
  rintro e w' ⟨rfl,hb⟩
  refine⟨_,fun b=>if b < w.heap.size then kd b else .stab,β,bs,rfl,⟨fun i hi=>absurd hi (by simp),Nat.le_refl _,⟨fun i c hi=>(by simp at hi),fun i hi=>(by simp at hi)⟩,⟨_,rfl,⟨_,rfl,by simp⟩,rfl,trivial⟩,hb.os,hb.tape,hb.output,hb.size,fun b q _ _=>hb.block b q,fun b o hs=>hE.cell hb b o hs,fun b k hk=>?_,fun b t k hk=>?_,fun i _ hi=>absurd hi (by simp),fun i hi=>(by simp at hi)⟩⟩
  ·obtain⟨q1,_,t,k',q2,q3⟩:=h4 b k hk
   exact⟨t,k',by rw[if_pos q1];exact q2,q3⟩
  ·by_cases q:b < w.heap.size
   ·rw[if_pos q] at hk
    exact .inr (h5 b t k hk q)
   ·exact .inl (by omega)
theorem tks_inj {f g:List Tk} (h:tks f=tks g):f=g:=by
 unfold tks at h;refine (map_inj_right (f:=tkR) (fun x y hxy=>?_)).1 h;obtain⟨a,b,c⟩:=x;obtain⟨a',b',c'⟩:=y;simpa [tkR] using hxy
theorem ens_inj {m n:List En} (h:ens m=ens n):m=n:=by
 unfold ens at h;refine (map_inj_right (f:=rowE) (fun x y hxy=>?_)).1 h;simp only[rowE,List.cons.injEq,AV.sl.injEq,AV.str.injEq,AV.int.injEq,true_and,and_true] at hxy;obtain⟨h1,h2,h3,h4,h5,h6,h7,h8⟩:=hxy;exact En.eq (tks_inj h1) (tks_inj h2) h3 h4 h5 h6 h7 h8
def T9:FuncId->Option AFun
 | 5=>some F5z
 | 6=>some F6z
 | 7=>some F7z
 | 8=>some F8z
 | 12=>some F12
 | 14=>some F14z
 | _=>none
theorem T9_ok:∀ f F,T9 f=some F->okFun Tryz.prog f F=true:=by
 intro f F h;unfold T9 at h
 split at h
 ·cases h;exact ok5z
 ·cases h;exact ok6z
 ·cases h;exact ok7z
 ·cases h;exact ok8z
 ·cases h;exact ok12
 ·cases h;exact ok14z
 ·cases h
open Classical in
noncomputable def fmB:Calls':=fun f args sh=>if f=17 then (if h:sh=[]/\∃ m,args=[.sl .no 8 (ens m)]/\FOK m then some (.tup [.str (fmM h.2.choose).1,.int .i64 (fmM h.2.choose).2],[]) else none) else if (T9 f).isSome=true then none else G0 f args sh
theorem fmB_good:Good Tryz.prog fmB:=by
 intro f args sh r sh' h;unfold fmB at h
 split at h
 ·rename_i hf
  subst hf
  split at h
  ·rename_i q
   obtain⟨q1,q2⟩:=q.2.choose_spec;simp only[Option.some.injEq,Prod.mk.injEq] at h;obtain⟨rfl,rfl⟩:=h;generalize q.2.choose=m at q1 q2 ⊢;rw[q.1,q1];exact .inl ⟨⟨Tryz.f17,Tryz.func17,by kernel_rfl,by kernel_rfl⟩,fm_sem q2⟩
  ·cases h
 ·split at h
  ·cases h
  ·exact G0_good _ _ _ _ _ h
theorem fmB_17 {m:List En} (h:FOK m):fmB 17 [.sl .no 8 (ens m)] []=some (.tup [.str (fmM m).1,.int .i64 (fmM m).2],[]):=by
 unfold fmB;have q:([]:LL)=[]/\∃ m',[AV.sl .no 8 (ens m)]=[.sl .no 8 (ens m')]/\FOK m':=⟨rfl,m,rfl,h⟩
 rw[if_pos rfl,dif_pos q];have q1:=q.2.choose_spec.1
 have:m=q.2.choose:=ens_inj (by simpa using q1)
 rw[<- this]
noncomputable abbrev G9:Calls':=Gx fmB T9
theorem G9_good:Good Tryz.prog G9:=Gx_good mix fmB_good T9_ok
theorem up {f:FuncId} {args:List AV} {sh:LL} {r:AV × LL} (h:G0 f args sh=some r) (hf:f≠17) (hT:T9 f=none):G9 f args sh=some r:=by
 refine Gx_base ?_;unfold fmB;rw[if_neg hf,hT,if_neg (by simp)];exact h
theorem k17 {m:List En} (h:FOK m):G9 17 [.sl .no 8 (ens m)] []=some (.tup [.str (fmM m).1,.int .i64 (fmM m).2],[]):=Gx_base (fmB_17 h)
end Go.Av
namespace Go.Av
open Go.Nt
theorem int_eqb (a b:Int):(a == b)=decide (a=b):=by by_cases h:a=b<;>simp [h]
theorem ln44 (s:Bs) (hs:s.length<=10) (M:Int):∀ (r p:Bs) (n:Nat),s=p++r->n < 10 ^ p.length ->
  (r.all digB=true->execX G0 L44_0 (ST [(0,.str s),(1,.int .i64 M),(6,.int .i64 n),(24,.bool false),(26,.int .i64 s.length),(27,.int .i64 p.length)] [] [])=some (.ex 0,ST [(0,.str s),(1,.int .i64 M),(6,.int .i64 (numV r n:Nat)),(24,.bool false),(26,.int .i64 s.length),(27,.int .i64 s.length),(28,.bool false)] [] [])/\numV r n < 10 ^ s.length) /\
  (r.all digB=false->∃ l',execX G0 L44_0 (ST [(0,.str s),(1,.int .i64 M),(6,.int .i64 n),(24,.bool false),(26,.int .i64 s.length),(27,.int .i64 p.length)] [] [])=some (.ret,ST l' [] [])/\look .any l' 4=.int .i64 0/\look .any l' 5=.bool false)
 | [],p,n,h,hn=>by
  have h:s=p:=by simp [h]
  subst h;refine⟨fun _=>⟨?_,hn⟩,fun h=>(by simp at h)⟩;rw[Y_loop (L:=L44_0) rfl];simp only[go_sem,Int.lt_irrefl];rfl
 | c :: r,p,n,h,hn=>by
  have hl:s.length=p.length+1+r.length:=by simp [h];omega
  have h4:(p.length:Int) < (s.length:Int):=by omega
  have h0:(0:Int)<=(p.length:Int):=by omega
  have h5:s[p.length]?=some c:=by rw[h];simp
  have hw:IntKind.i64.wrap ((p.length:Int)+1)=((p.length+1:Nat):Int):=by rw[w64 (by omega) (by omega)];rfl
  have hI:=digB_I c;have e1:((p++[c]).length:Int)=((p.length+1:Nat):Int):=by simp
  have hp3:10 ^ p.length<=10 ^ 10:=Nat.pow_le_pow_right (by decide) (by omega);rw[all_cons];cases hc:digB c with
  | true =>
   obtain⟨a1,a2⟩:=hI.1 hc;have ih:=ln44 s hs M r (p++[c]) (10*n+(c.toNat - 48)) (by simp [h]) (by rw[length_append,length_singleton,Nat.pow_succ];omega);rw[e1] at ih;have b1:¬ (c.toNat:Int) < 48:=by omega
   have b2:¬ 57 < (c.toNat:Int):=by omega
   have w1:IntKind.i64.wrap (10*(n:Int))=10*(n:Int):=w64 (by omega) (by omega);have w2:IntKind.u8.wrap ((c.toNat:Int) - 48)=(c.toNat:Int) - 48:=wu8 (by omega) (by omega);have w3:IntKind.i64.wrap ((c.toNat:Int) - 48)=(c.toNat:Int) - 48:=w64 (by omega) (by omega);have w4:IntKind.i64.wrap (10*(n:Int)+((c.toNat:Int) - 48))=((10*n+(c.toNat - 48):Nat):Int):=by rw[w64 (by omega) (by omega)];omega
   have step:execX G0 L44_0 (ST [(0,.str s),(1,.int .i64 M),(6,.int .i64 n),(24,.bool false),(26,.int .i64 s.length),(27,.int .i64 p.length)] [] [])=execX G0 L44_0 (ST [(0,.str s),(1,.int .i64 M),(6,.int .i64 ((10*n+(c.toNat - 48):Nat):Int)),(24,.bool false),(26,.int .i64 s.length),(27,.int .i64 ((p.length+1:Nat):Int))] [] []):=by
    conv=>lhs;rw[Y_loop (L:=L44_0) rfl]
    simp only[go_sem,h4,h5,h0,b1,b2,w1,w2,w3,w4,hw]
   rw[step,Bool.true_and];exact ih
  | false =>
   refine⟨fun q=>(by simp at q),fun _=>?_⟩;by_cases a1:(c.toNat:Int) < 48
   ·refine Exists.intro ?_ (And.intro ?_ ?_)
    rotate_left 1
    ·rw[Y_loop (L:=L44_0) rfl]
     simp only[go_sem,h4,h5,h0,a1];rfl
    ·exact⟨rfl,rfl⟩
   ·have a2:57 < (c.toNat:Int):=by
     by_cases q:57 < (c.toNat:Int)
     ·exact q
     ·rw[hI.2 ⟨by omega,by omega⟩] at hc;cases hc
    refine Exists.intro ?_ (And.intro ?_ ?_)
    rotate_left 1
    ·rw[Y_loop (L:=L44_0) rfl]
     simp only[go_sem,h4,h5,h0,a1,a2];rfl
    ·exact⟨rfl,rfl⟩
theorem kn44 (s:Bs) (most:Nat):∃ (n:Int) (b:Bool),G0 44 [.str s,.int .i64 most] []=some (.tup [.int .i64 n,.bool b],[])/\b=(numX s most).isSome/\∀ k,numX s most=some k->n=(k:Int):=by
 by_cases h1:s=[]
 ·subst h1
  refine⟨0,false,?_,rfl,fun k hk=>(by cases hk)⟩;refine contract F44 rfl rfl rfl ?_;simp only[F44,go_sem,beq_self_eq_true]
 have h1':(s == [])=false:=by simpa using h1
 have hl:1<=s.length:=by cases s with | nil=>exact absurd rfl h1 | cons=>simp
 by_cases h2:10 < s.length
 ·have h2':(10:Int) < (s.length:Int):=by omega
  have hn:numX s most=none:=by unfold numX;rw[if_neg (fun q=>by omega)]
  refine⟨0,false,?_,by rw[hn];rfl,fun k hk=>(by rw[hn] at hk;cases hk)⟩;refine contract F44 rfl rfl rfl ?_;simp only[F44,go_sem,h1',h2']
 have h2':¬ (10:Int) < (s.length:Int):=by omega
 have h3:=headI (s:=s) (by omega);have hh:s.head?=some (s.headD 0):=by cases s with | nil=>exact absurd rfl h1 | cons=>rfl
 generalize s.headD 0=c at h3 hh;by_cases h4:1 < s.length/\c=48
 ·have h4':(1:Int) < (s.length:Int):=by omega
  have h5':(c.toNat:Int)=48:=by rw[h4.2];rfl
  have hn:numX s most=none:=by unfold numX;rw[if_neg (fun q=>q.2.2.1 ⟨h4.1,by rw[hh,h4.2]⟩)]
  refine⟨0,false,?_,by rw[hn];rfl,fun k hk=>(by rw[hn] at hk;cases hk)⟩;refine contract F44 rfl rfl rfl ?_;simp only[F44,go_sem,h1',h2',h3,h4',h5',int_eqb]
 obtain⟨x1,x2⟩:=ln44 s (by omega) most s [] 0 rfl (by simp);have ec:((([]:Bs).length:Nat):Int)=0:=rfl;have ec2:(((0:Nat)):Int)=0:=rfl;rw[ec,ec2] at x1 x2;cases hv:s.all digB with
 | true =>
  obtain⟨y1,y2⟩:=x1 hv;have hp3:10 ^ s.length<=10 ^ 10:=Nat.pow_le_pow_right (by decide) (by omega);refine⟨(numV s 0:Nat),decide ((numV s 0:Int)<=(most:Int)),?_,?_,fun k hk=>?_⟩
  ·refine contract F44 rfl rfl rfl ?_
   by_cases g1:(1:Int) < (s.length:Int)
   ·have g2:¬ (c.toNat:Int)=48:=nat_ne fun q=>h4 ⟨by omega,q⟩
    simp only[F44,go_sem,h1',h2',h3,g1,g2,y1,int_eqb,decide_false]
   ·simp only[F44,go_sem,h1',h2',g1,y1]
  ·unfold numX
   by_cases q:numV s 0<=most
   ·rw[if_pos ⟨hl,by omega,fun z=>h4 ⟨z.1,by rw[hh] at z;exact Option.some.inj z.2⟩,hv,q⟩,decide_eq_true (by omega)];rfl
   ·rw[if_neg (fun z=>q z.2.2.2.2),decide_eq_false (by omega)];rfl
  ·unfold numX at hk
   split at hk
   ·cases hk;rfl
   ·cases hk
 | false =>
  obtain⟨l',y1,y2,y3⟩:=x2 hv;have hn:numX s most=none:=by unfold numX;rw[if_neg (fun q=>by rw[hv] at q;exact absurd q.2.2.2.1 (by decide))]
  refine⟨0,false,?_,by rw[hn];rfl,fun k hk=>(by rw[hn] at hk;cases hk)⟩;refine contract F44 rfl rfl rfl ?_;by_cases g1:(1:Int) < (s.length:Int)
  ·have g2:¬ (c.toNat:Int)=48:=nat_ne fun q=>h4 ⟨by omega,q⟩
   simp only[F44,go_sem,h1',h2',h3,g1,g2,y1,y2,y3,int_eqb,decide_false]
  ·simp only[F44,go_sem,h1',h2',g1,y1,y2,y3]
theorem ln72 (s:Bs) (hs:s.length<=10) (M:Int):∀ (r p:Bs) (n:Nat),s=p++r->n < 10 ^ p.length ->
  (r.all digB=true->execX G0 L72_0 (ST [(0,.str s),(1,.int .i64 M),(6,.int .i64 n),(7,.int .i64 p.length),(24,.bool false)] [] [])=some (.ex 0,ST [(0,.str s),(1,.int .i64 M),(6,.int .i64 (numV r n:Nat)),(7,.int .i64 s.length),(24,.bool false),(28,.bool false)] [] [])/\numV r n < 10 ^ s.length) /\
  (r.all digB=false->∃ l',execX G0 L72_0 (ST [(0,.str s),(1,.int .i64 M),(6,.int .i64 n),(7,.int .i64 p.length),(24,.bool false)] [] [])=some (.ret,ST l' [] [])/\look .any l' 4=.int .i64 0/\look .any l' 5=.bool false)
 | [],p,n,h,hn=>by
  have h:s=p:=by simp [h]
  subst h;refine⟨fun _=>⟨?_,hn⟩,fun h=>(by simp at h)⟩;rw[Y_loop (L:=L72_0) rfl];simp only[go_sem,Int.lt_irrefl];rfl
 | c :: r,p,n,h,hn=>by
  have hl:s.length=p.length+1+r.length:=by simp [h];omega
  have h4:(p.length:Int) < (s.length:Int):=by omega
  have h0:(0:Int)<=(p.length:Int):=by omega
  have h5:s[p.length]?=some c:=by rw[h];simp
  have hw:IntKind.i64.wrap ((p.length:Int)+1)=((p.length+1:Nat):Int):=by rw[w64 (by omega) (by omega)];rfl
  have hI:=digB_I c;have e1:((p++[c]).length:Int)=((p.length+1:Nat):Int):=by simp
  have hp3:10 ^ p.length<=10 ^ 10:=Nat.pow_le_pow_right (by decide) (by omega);rw[all_cons];cases hc:digB c with
  | true =>
   obtain⟨a1,a2⟩:=hI.1 hc;have ih:=ln72 s hs M r (p++[c]) (10*n+(c.toNat - 48)) (by simp [h]) (by rw[length_append,length_singleton,Nat.pow_succ];omega);rw[e1] at ih;have b1:¬ (c.toNat:Int) < 48:=by omega
   have b2:¬ 57 < (c.toNat:Int):=by omega
   have w1:IntKind.i64.wrap ((n:Int)*10)=(n:Int)*10:=w64 (by omega) (by omega);have w2:IntKind.u8.wrap ((c.toNat:Int) - 48)=(c.toNat:Int) - 48:=wu8 (by omega) (by omega);have w3:IntKind.i64.wrap ((c.toNat:Int) - 48)=(c.toNat:Int) - 48:=w64 (by omega) (by omega);have w4:IntKind.i64.wrap ((n:Int)*10+((c.toNat:Int) - 48))=((10*n+(c.toNat - 48):Nat):Int):=by rw[w64 (by omega) (by omega)];omega
   have step:execX G0 L72_0 (ST [(0,.str s),(1,.int .i64 M),(6,.int .i64 n),(7,.int .i64 p.length),(24,.bool false)] [] [])=execX G0 L72_0 (ST [(0,.str s),(1,.int .i64 M),(6,.int .i64 ((10*n+(c.toNat - 48):Nat):Int)),(7,.int .i64 ((p.length+1:Nat):Int)),(24,.bool false)] [] []):=by
    conv=>lhs;rw[Y_loop (L:=L72_0) rfl]
    simp only[go_sem,h4,h5,h0,b1,b2,w1,w2,w3,w4,hw]
   rw[step,Bool.true_and];exact ih
  | false =>
   refine⟨fun q=>(by simp at q),fun _=>?_⟩;by_cases a1:(c.toNat:Int) < 48
   ·refine Exists.intro ?_ (And.intro ?_ ?_)
    rotate_left 1
    ·rw[Y_loop (L:=L72_0) rfl]
     simp only[go_sem,h4,h5,h0,a1];rfl
    ·exact⟨rfl,rfl⟩
   ·have a2:57 < (c.toNat:Int):=by
     by_cases q:57 < (c.toNat:Int)
     ·exact q
     ·rw[hI.2 ⟨by omega,by omega⟩] at hc;cases hc
    refine Exists.intro ?_ (And.intro ?_ ?_)
    rotate_left 1
    ·rw[Y_loop (L:=L72_0) rfl]
     simp only[go_sem,h4,h5,h0,a1,a2];rfl
    ·exact⟨rfl,rfl⟩
theorem kn72 (s:Bs) (most:Nat):∃ (n:Int) (b:Bool),G0 72 [.str s,.int .i64 most] []=some (.tup [.int .i64 n,.bool b],[])/\b=(numX s most).isSome/\∀ k,numX s most=some k->n=(k:Int):=by
 by_cases h1:s=[]
 ·subst h1
  refine⟨0,false,?_,rfl,fun k hk=>(by cases hk)⟩;refine contract F72 rfl rfl rfl ?_;simp only[F72,go_sem,beq_self_eq_true]
 have h1':(s == [])=false:=by simpa using h1
 have hl:1<=s.length:=by cases s with | nil=>exact absurd rfl h1 | cons=>simp
 by_cases h2:10 < s.length
 ·have h2':(10:Int) < (s.length:Int):=by omega
  have hn:numX s most=none:=by unfold numX;rw[if_neg (fun q=>by omega)]
  refine⟨0,false,?_,by rw[hn];rfl,fun k hk=>(by rw[hn] at hk;cases hk)⟩;refine contract F72 rfl rfl rfl ?_;simp only[F72,go_sem,h1',h2']
 have h2':¬ (10:Int) < (s.length:Int):=by omega
 have h3:=headI (s:=s) (by omega);have hh:s.head?=some (s.headD 0):=by cases s with | nil=>exact absurd rfl h1 | cons=>rfl
 generalize s.headD 0=c at h3 hh;by_cases h4:1 < s.length/\c=48
 ·have h4':(1:Int) < (s.length:Int):=by omega
  have h5':(c.toNat:Int)=48:=by rw[h4.2];rfl
  have hn:numX s most=none:=by unfold numX;rw[if_neg (fun q=>q.2.2.1 ⟨h4.1,by rw[hh,h4.2]⟩)]
  refine⟨0,false,?_,by rw[hn];rfl,fun k hk=>(by rw[hn] at hk;cases hk)⟩;refine contract F72 rfl rfl rfl ?_;simp only[F72,go_sem,h1',h2',h3,h4',h5',int_eqb]
 obtain⟨x1,x2⟩:=ln72 s (by omega) most s [] 0 rfl (by simp);have ec:((([]:Bs).length:Nat):Int)=0:=rfl;have ec2:(((0:Nat)):Int)=0:=rfl;rw[ec,ec2] at x1 x2;cases hv:s.all digB with
 | true =>
  obtain⟨y1,y2⟩:=x1 hv;have hp3:10 ^ s.length<=10 ^ 10:=Nat.pow_le_pow_right (by decide) (by omega);refine⟨(numV s 0:Nat),decide ((numV s 0:Int)<=(most:Int)),?_,?_,fun k hk=>?_⟩
  ·refine contract F72 rfl rfl rfl ?_
   by_cases g1:(1:Int) < (s.length:Int)
   ·have g2:¬ (c.toNat:Int)=48:=nat_ne fun q=>h4 ⟨by omega,q⟩
    simp only[F72,go_sem,h1',h2',h3,g1,g2,y1,int_eqb,decide_false]
   ·simp only[F72,go_sem,h1',h2',g1,y1]
  ·unfold numX
   by_cases q:numV s 0<=most
   ·rw[if_pos ⟨hl,by omega,fun z=>h4 ⟨z.1,by rw[hh] at z;exact Option.some.inj z.2⟩,hv,q⟩,decide_eq_true (by omega)];rfl
   ·rw[if_neg (fun z=>q z.2.2.2.2),decide_eq_false (by omega)];rfl
  ·unfold numX at hk
   split at hk
   ·cases hk;rfl
   ·cases hk
 | false =>
  obtain⟨l',y1,y2,y3⟩:=x2 hv;have hn:numX s most=none:=by unfold numX;rw[if_neg (fun q=>by rw[hv] at q;exact absurd q.2.2.2.1 (by decide))]
  refine⟨0,false,?_,by rw[hn];rfl,fun k hk=>(by rw[hn] at hk;cases hk)⟩;refine contract F72 rfl rfl rfl ?_;by_cases g1:(1:Int) < (s.length:Int)
  ·have g2:¬ (c.toNat:Int)=48:=nat_ne fun q=>h4 ⟨by omega,q⟩
   simp only[F72,go_sem,h1',h2',h3,g1,g2,y1,y2,y3,int_eqb,decide_false]
  ·simp only[F72,go_sem,h1',h2',g1,y1,y2,y3]
theorem kPre (s b:Bs):G0 102 [.str s,.str b] []=some (.bool (b.isPrefixOf s),[]):=by
 refine contract F102 rfl rfl rfl ?_;by_cases h:(b.length:Int)<=(s.length:Int)
 ·have h0:(0:Int)<=(b.length:Int):=by omega
  have e:(s.take b.length == b)=b.isPrefixOf s:=by
   rw[Bool.eq_iff_iff,beq_iff_eq,isPrefixOf_iff_prefix];exact⟨fun q=>by rw[<- q];exact take_prefix _ _,fun q=>(prefix_iff_eq_take.1 q).symm⟩
  simp only[F102,go_sem,h,h0,e]
 ·have e:b.isPrefixOf s=false:=by
   cases q:b.isPrefixOf s with
   | false=>rfl
   | true=>have:=(isPrefixOf_iff_prefix.1 q).length_le;omega
  simp only[F102,go_sem,h,e]
theorem kCutP (s b:Bs):(∀ v,after b s=some v->G0 43 [.str s,.str b] []=some (.tup [.str v,.bool true],[]))/\(after b s=none->G0 43 [.str s,.str b] []=some (.tup [.str s,.bool false],[])):=by
 have a:=kPre s b;unfold after
 cases q:b.isPrefixOf s with
 | true =>
  rw[q] at a;have hl:=(isPrefixOf_iff_prefix.1 q).length_le;have h1:(b.length:Int)<=(s.length:Int):=by omega
  have h0:(0:Int)<=(b.length:Int):=by omega
  have c:G0 75 [.str s,.str b] []=some (.tup [.str (s.drop b.length),.bool true],[]):=by
   refine contract F75 rfl rfl rfl ?_;simp only[F75,go_sem,a,h0,h1,take_length]
  refine⟨fun v hv=>?_,fun h=>(by cases h)⟩;cases hv;refine contract F43 rfl rfl rfl ?_;simp only[F43,go_sem,c]
 | false =>
  rw[q] at a;have c:G0 75 [.str s,.str b] []=some (.tup [.str s,.bool false],[]):=by
   refine contract F75 rfl rfl rfl ?_;simp only[F75,go_sem,a]
  refine⟨fun v hv=>(by cases hv),fun _=>?_⟩;refine contract F43 rfl rfl rfl ?_;simp only[F43,go_sem,c]
theorem kAft (s b:Bs):(∀ v,after b s=some v->G0 22 [.str s,.str b] []=some (.tup [.str v,.bool true],[]))/\(after b s=none->G0 22 [.str s,.str b] []=some (.tup [.str [],.bool false],[])):=by
 unfold after;by_cases h:(s.length:Int) < (b.length:Int)
 ·have e:b.isPrefixOf s=false:=by
   cases q:b.isPrefixOf s with
   | false=>rfl
   | true=>have:=(isPrefixOf_iff_prefix.1 q).length_le;omega
  rw[e];refine⟨fun v hv=>(by cases hv),fun _=>?_⟩;refine contract F22 rfl rfl rfl ?_;simp only[F22,go_sem,h]
 ·have h1:(b.length:Int)<=(s.length:Int):=by omega
  have h0:(0:Int)<=(b.length:Int):=by omega
  cases q:b.isPrefixOf s with
  | true =>
   have e:(s.take b.length != b)=false:=by simpa using (prefix_iff_eq_take.1 (isPrefixOf_iff_prefix.1 q)).symm
   refine⟨fun v hv=>?_,fun h=>(by cases h)⟩;cases hv;refine contract F22 rfl rfl rfl ?_;simp only[F22,go_sem,h,h0,h1,e,take_length]
  | false =>
   have e:(s.take b.length != b)=true:=by
    simp only[bne_iff_ne,ne_eq];intro z;rw[isPrefixOf_iff_prefix.2 (by rw[<- z];exact take_prefix _ _)] at q;cases q
   refine⟨fun v hv=>(by cases hv),fun _=>?_⟩;refine contract F22 rfl rfl rfl ?_;simp only[F22,go_sem,h,h0,h1,e]
end Go.Av
namespace Go.Av
open Go.Nt
def Ro (b x y:Bool) (r:Rd) (last:Bs):List AV:=[.sl (md b) 8 (ens r.m),.sl (mdn x) 3 (tks r.e.S),.sl (mdn y) 3 (tks r.e.T),.str r.e.p,.str r.e.n,.str r.e.a,.str r.e.j,.int .i64 r.e.c,.int .i64 r.e.o,.str last,.int .i64 (r.k:Int)]
theorem rf_ok (m1 m2 m3:Own) (l1 l2 l3:LL) (a b c d e:Bs) (i j k:Int):refsOk false 1 [[.sl m1 8 l1,.sl m2 3 l2,.sl m3 3 l3,.str a,.str b,.str c,.str d,.int .i64 i,.int .i64 j,.str e,.int .i64 k]]=true:=rfl
theorem kFits (b x y:Bool) (r:Rd) (last:Bs) (k:Nat):G0 76 [.ptr 0 0,.int .i64 k] [Ro b x y r last]=some (.bool (if r.k < 2 then decide (k=r.k) else decide (r.k<=k)),[Ro b x y r last]):=by
 refine contract F76 rfl rfl rfl ?_;by_cases h:r.k < 2
 ·have h':(r.k:Int) < 2:=by omega
  have e:decide ((k:Int)=(r.k:Int))=decide (k=r.k):=by by_cases q:k=r.k<;>simp [q];omega
  rw[if_pos h];simp only[F76,go_sem,Ro,h',e,int_eqb,rf_ok]
 ·have h':¬ (r.k:Int) < 2:=by omega
  have e:decide ((r.k:Int)<=(k:Int))=decide (r.k<=k):=by by_cases q:r.k<=k<;>simp [q]
  rw[if_neg h];simp only[F76,go_sem,Ro,h',e,int_eqb,rf_ok]
theorem c67':G0 67 [] []=some (.agg [.str [104,117,109,97,110],.str [97,108,105,103,110,101,100],.str [109,97,99,104,105,110,101]],[]):=by
 refine contract F67 rfl rfl rfl ?_;simp only[F67,go_sem]
def bfr:List (Nat × AV):=[(34,.bool false),(46,.bool false),(58,.bool false),(71,.bool false),(84,.bool false),(91,.bool false),(98,.bool false)]
theorem l77s (b x y:Bool) (m:List En) (e:En) (k:Nat) (last v:Bs) (i:Nat) (hi:i < 3) (a13:List AV) (h13:a13=[.str [104,117,109,97,110],.str [97,108,105,103,110,101,100],.str [109,97,99,104,105,110,101]]) :
  execX G0 L77_0 (ST ((0,.ptr 0 0) :: (2,.str v) :: (7,.int .i64 0) :: (13,.agg a13) :: (14,.int .i64 i) :: bfr) [] [Ro b x y ⟨m,e,k⟩ last])=execX G0 L77_0 (ST ((0,.ptr 0 0) :: (2,.str v) :: (7,.int .i64 0) :: (13,.agg a13) :: (14,.int .i64 ((i+1:Nat):Int)) :: bfr) [] [Ro b x y ⟨m,if orn.getD i []=v then { e with o:=(i:Int)+1 } else e,k⟩ last]):=by
 have h0:(0:Int)<=(i:Int):=by omega
 have h1:(i:Int) < 3:=by omega
 have hw:IntKind.i64.wrap ((i:Int)+1)=((i+1:Nat):Int):=by rw[w64 (by omega) (by omega)];rfl
 have hw2:IntKind.i64.wrap (1+(i:Int))=(i:Int)+1:=by rw[w64 (by omega) (by omega)];omega
 have ht:takeC false (i*1) 1 a13=some (.str (orn.getD i [])):=by
  subst h13
  match i,hi with
  | 0,_ | 1,_ | 2,_=>rfl
 have hl:a13.length=3:=by rw[h13];rfl
 generalize orn.getD i []=q at ht
 conv=>lhs;rw[Y_loop (L:=L77_0) rfl]
 by_cases hq:q=v
 ·have hq':(q == v)=true:=by simpa using hq
  rw[if_pos hq];simp only[go_sem,bfr,Ro,h0,h1,hl,ht,hq',hw,hw2]
 ·have hq':(q == v)=false:=by simpa using hq
  rw[if_neg hq];simp only[go_sem,bfr,Ro,h0,h1,hl,ht,hq',hw]
theorem idx_no {l:List Bs} {a:Bs} (h:idx l a=none):∀ x∈l,x≠a:=by
 induction l with
 | nil=>intro x hx;cases hx
 | cons z l ih =>
  unfold idx at h;by_cases q:z=a
  ·rw[if_pos q] at h;cases h
  ·rw[if_neg q] at h
   intro x hx;rcases mem_cons.1 hx with r | r
   ·rw[r];exact q
   ·exact ih (by simpa using h) x r
theorem l77 (b x y:Bool) (m:List En) (e:En) (k:Nat) (last v:Bs) (a13:List AV) (h13:a13=[.str [104,117,109,97,110],.str [97,108,105,103,110,101,100],.str [109,97,99,104,105,110,101]]) (ho:e.o=0) :
  execX G0 L77_0 (ST ((0,.ptr 0 0) :: (2,.str v) :: (7,.int .i64 0) :: (13,.agg a13) :: (14,.int .i64 0) :: bfr) [] [Ro b x y ⟨m,e,k⟩ last])=some (.ex 1,ST ((0,.ptr 0 0) :: (2,.str v) :: (7,.int .i64 0) :: (13,.agg a13) :: (14,.int .i64 3) :: (15,.bool false) :: bfr) [] [Ro b x y ⟨m,(setE 7 v e).2,k⟩ last]):=by
 have s0:=l77s b x y m e k last v 0 (by decide) a13 h13;have s1:=l77s b x y m (if orn.getD 0 []=v then { e with o:=((0:Nat):Int)+1 } else e) k last v 1 (by decide) a13 h13;have s2:=l77s b x y m (if orn.getD 1 []=v then { (if orn.getD 0 []=v then { e with o:=((0:Nat):Int)+1 } else e) with o:=((1:Nat):Int)+1 } else (if orn.getD 0 []=v then { e with o:=((0:Nat):Int)+1 } else e)) k last v 2 (by decide) a13 h13;refine s0.trans (s1.trans (s2.trans ?_));have hE:(if orn.getD 2 []=v then { (if orn.getD 1 []=v then { (if orn.getD 0 []=v then { e with o:=((0:Nat):Int)+1 } else e) with o:=((1:Nat):Int)+1 } else (if orn.getD 0 []=v then { e with o:=((0:Nat):Int)+1 } else e)) with o:=((2:Nat):Int)+1 } else (if orn.getD 1 []=v then { (if orn.getD 0 []=v then { e with o:=((0:Nat):Int)+1 } else e) with o:=((1:Nat):Int)+1 } else (if orn.getD 0 []=v then { e with o:=((0:Nat):Int)+1 } else e)))=(setE 7 v e).2:=by
  show _=(match idx orn v with | some i=>((0:Int),{ e with o:=(i:Int)+1 }) | none=>((2:Int),e)).2;have n0:¬ orn.getD 0 []=orn.getD 1 []:=by decide
  have n1:¬ orn.getD 0 []=orn.getD 2 []:=by decide
  have n2:¬ orn.getD 1 []=orn.getD 2 []:=by decide
  by_cases q0:orn.getD 0 []=v
  ·subst q0
   rw[idx_orn 0 (by decide),if_neg (fun h=>n1 h.symm),if_neg (fun h=>n0 h.symm),if_pos rfl]
  ·by_cases q1:orn.getD 1 []=v
   ·subst q1
    rw[idx_orn 1 (by decide),if_neg (fun h=>n2 h.symm),if_pos rfl,if_neg q0]
   ·by_cases q2:orn.getD 2 []=v
    ·subst q2
     rw[idx_orn 2 (by decide),if_pos rfl,if_neg q1,if_neg q0]
    ·have:idx orn v=none:=by
      cases h:idx orn v with
      | none=>rfl
      | some i =>
       have h5:=idx_at h;have hi:=(List.getElem?_eq_some_iff.1 h5).1
       match i,hi,h5 with
       | 0,_,h5=>exact absurd (Option.some.inj h5) q0
       | 1,_,h5=>exact absurd (Option.some.inj h5) q1
       | 2,_,h5=>exact absurd (Option.some.inj h5) q2
     rw[this,if_neg q2,if_neg q1,if_neg q0]
 rw[hE];have e3:(((2+1:Nat)):Int)=3:=rfl;rw[e3,Y_loop (L:=L77_0) rfl];simp only[go_sem,bfr]
theorem set7 (v:Bs) (e:En) (ho:e.o=0):((setE 7 v e).1=0/\¬ (setE 7 v e).2.o=0)\/((setE 7 v e).1=2/\(setE 7 v e).2.o=0):=by
 show ((match idx orn v with | some i=>((0:Int),{ e with o:=(i:Int)+1 }) | none=>((2:Int),e)).1=0/\¬ (match idx orn v with | some i=>((0:Int),{ e with o:=(i:Int)+1 }) | none=>((2:Int),e)).2.o=0)\/_;cases h:idx orn v with
 | some i=>exact .inl ⟨rfl,by show ¬ (i:Int)+1=0;omega⟩
 | none=>exact .inr ⟨by show (match idx orn v with | some i=>((0:Int),{ e with o:=(i:Int)+1 }) | none=>((2:Int),e)).1=2;rw[h],by show (match idx orn v with | some i=>((0:Int),{ e with o:=(i:Int)+1 }) | none=>((2:Int),e)).2.o=0;rw[h];exact ho⟩
theorem kField (b x y:Bool) (m:List En) (e:En) (kk:Nat) (last v:Bs) (hv:v.length<=50000) (ho:e.o=0) (k:Nat) (hk:k < 8) :
  G0 77 [.ptr 0 0,.int .i64 k,.str v] [Ro b x y ⟨m,e,kk⟩ last]=some (.int .i64 (setE k v e).1,[Ro b (x || decide (k=0)) (y || decide (k=1)) ⟨m,(setE k v e).2,kk⟩ last]):=by
 have p:=c35 v (by omega);have mT:mdn true=.no:=rfl;refine contract F77 rfl rfl rfl ?_
 match k,hk with
 | 0,_ =>
  simp only[F77,go_sem,Ro,p,rf_ok,setE,Bool.or_true,Bool.or_false,mT]
 | 1,_ =>
  simp only[F77,go_sem,Ro,p,rf_ok,setE,Bool.or_true,Bool.or_false,mT]
 | 2,_ =>
  simp only[F77,go_sem,Ro,p,rf_ok,setE,Bool.or_true,Bool.or_false,mT]
 | 3,_ =>
  simp only[F77,go_sem,Ro,p,rf_ok,setE,Bool.or_true,Bool.or_false,mT]
 | 4,_ =>
  simp only[F77,go_sem,Ro,p,rf_ok,setE,Bool.or_true,Bool.or_false,mT]
 | 5,_ =>
  simp only[F77,go_sem,Ro,p,rf_ok,setE,Bool.or_true,Bool.or_false,mT]
 | 6,_ =>
  obtain⟨n,bb,g1,g2,g3⟩:=kn44 v 1073741824;have ec:((1073741824:Nat):Int)=1073741824:=rfl;rw[ec] at g1;have hs:setE 6 v e=(match numX v 1073741824 with | some n=>if n=0 then ((2:Int),e) else (0,{ e with c:=(n:Int) }) | none=>((2:Int),e)):=rfl;cases hn:numX v 1073741824 with
  | none =>
   rw[hn] at g2 hs;have g2:bb=false:=g2;subst g2;rw[hs];simp only[F77,go_sem,Ro,g1,rf_ok,Bool.or_false]
  | some k =>
   rw[hn] at g2 hs;have g2:bb=true:=g2;subst g2;have g3:=g3 k hn;subst g3;rw[hs];by_cases q:k=0
   ·subst q
    have q':(((0:Nat):Int) == 0)=true:=rfl;simp only[F77,go_sem,Ro,g1,rf_ok,q',Bool.or_false,if_true]
   ·have q':¬ (k:Int)=0:=by omega
    simp only[F77,go_sem,Ro,g1,rf_ok,int_eqb,q,q',decide_false,Bool.or_false,if_false]
 | 7,_ =>
  have l:=l77 b x y m e kk last v _ rfl ho;simp only[bfr,Ro] at l;rcases set7 v e ho with ⟨h1,h2⟩ | ⟨h1,h2⟩
  ·rw[h1]
   simp only[F77,go_sem,Ro,c67',l,rf_ok,int_eqb,h2,decide_false,Bool.or_false]
  ·rw[h1]
   simp only[F77,go_sem,Ro,c67',l,rf_ok,int_eqb,h2,decide_true,Bool.or_false]
end Go.Av
namespace Go.Av
open Go.Nt
def lsK (m:List En):Bs:=match m.getLast? with
 | some f=>keyE f
 | none=>[]
theorem lsK_s (m:List En) (e:En):lsK (m++[e])=keyE e:=by unfold lsK;rw[getLast?_concat]
theorem ldo_e (b:Bool) (l:LL) (c1 c2 c3 c4 c5 c6 c7 c8 c9 c10:AV):ldoB (sh:=[[.sl (md b) 8 l,c1,c2,c3,c4,c5,c6,c7,c8,c9,c10]]) 0 0 [.sl (md b) 8 l,c1,c2,c3,c4,c5,c6,c7,c8,c9,c10] (.sl (md b) 8 l)=some (.sl (md b) 8 l,[[.sl (mdn b) 8 l,c1,c2,c3,c4,c5,c6,c7,c8,c9,c10]]):=by
 cases b<;>rfl
theorem app_e (b:Bool) (m:List En) (e:En) (h:m.length<=1000000):appA false 8 128 (.sl (md b) 8 (ens m)) (.sl .full 8 [rowE e])=some (.sl .own 8 (ens (m++[e]))):=by
 have ha:appOK 128 (m.length+1)=true:=appOK_le (by decide) (by omega);rw[appA_gen (md b) .full (md_no b) 8 128 (by decide),ens_len,length_singleton,if_pos ha];simp [ens]
theorem kEnd (b:Bool) (m:List En) (e:En) (k:Nat) (he:BE e) (hm:m.length<=1000000):G0 78 [.ptr 0 0] [Ro b true true ⟨m,e,k⟩ (lsK m)]=some (.int .i64 (behE m e),[if behE m e=0 then Ro true true true ⟨m++[e],zE,0⟩ (keyE e) else Ro b true true ⟨m,e,k⟩ (lsK m)]):=by
 have a1:=k23 e he;have a2:=k24 e he;have mT:mdn true=.no:=rfl;have mF:md true=.own:=rfl;have ha:=app_e b m e hm;simp only[rowE] at a1 a2 ha;refine contract F78 rfl rfl rfl ?_;by_cases q:vE e=0
 case neg =>
  rw[beh_v q,if_neg q];simp only[F78,go_sem,Ro,mT,a1,q,rf_ok,decide_false,not_false_eq_true,decide_true]
 rw[q] at a1;have hz:tks zE.S=[]:=rfl;have hz2:tks zE.T=[]:=rfl;rcases eq_nil_or_concat m with rfl | ⟨g,f,hp⟩
 ·rw[beh_0 q,if_pos rfl]
  have hl:(ens []).length=0:=rfl;have ec0:((0:Nat):Int)=0:=rfl;simp only[F78,go_sem,Ro,mT,mF,a1,a2,ha,hl,ldV_md,demV_md,demV_mdn,ldo_e,mks8,rf_ok,hz,hz2,zE,tks_nil,not_true_eq_false,decide_false,Int.lt_irrefl,ec0]
 ·have hp:m=g++[f]:=by rw[hp,concat_eq_append]
  subst hp;have hl:(0:Int) < (((g++[f]).length:Nat):Int):=by rw[length_append];simp only[length_singleton];omega
  have hk:=lsK_s g f;have ho:=kOrd (keyE f) (keyE e);rw[<- beh_s q (p:=g++[f]) (f:=f) (by simp),<- hk] at ho;by_cases hb:behE (g++[f]) e=0
  ·rw[hb] at ho ⊢
   rw[if_pos rfl];simp only[F78,go_sem,Ro,mT,mF,a1,a2,ha,ens_len,hl,ho,ldV_md,demV_md,demV_mdn,ldo_e,mks8,rf_ok,hz,hz2,zE,tks_nil,not_true_eq_false,decide_false]
  ·rw[if_neg hb]
   simp only[F78,go_sem,Ro,mT,mF,a1,a2,ens_len,hl,ho,hb,ldV_md,demV_md,demV_mdn,rf_ok,not_true_eq_false,not_false_eq_true,decide_true,decide_false]
def nms:List AV:=[.str [115,111,117,114,99,101],.str [116,97,114,103,101,116],.str [112,114,101,118,105,111,117,115],.str [110,101,120,116],.str [97,117,116,104,111,114],.str [112,114,111,106,101,99,116],.str [99,114,101,97,116,101,100],.str [111,114,105,103,105,110]]
theorem c68':G0 68 [] []=some (.agg nms,[]):=by
 refine contract F68 rfl rfl rfl ?_;simp only[F68,go_sem,nms]
theorem nms_at (i:Nat) (hi:i < 8):takeC false (i*1) 1 nms=some (.str (fnm.getD i [])):=by
 match i,hi with
 | 0,_ | 1,_ | 2,_ | 3,_ | 4,_ | 5,_ | 6,_ | 7,_=>rfl
def finF (a:Bs):Nat->Nat->Int->Int
 | 0,_,k=>k
 | d+1,i,k=>finF a d (i+1) (if fnm.getD i []=a then (i:Int) else k)
theorem finF_at:∀ j,j < 8->finF (fnm.getD j []) 8 0 (-1)=(j:Int):=by decide
theorem finF_no {a:Bs} (h:idx fnm a=none):finF a 8 0 (-1) = -1:=by
 have h:=idx_no h
 have hn:∀ i,i < 8->¬ fnm.getD i []=a:=fun i hi=>h _ (by
  match i,hi with
  | 0,_ | 1,_ | 2,_ | 3,_ | 4,_ | 5,_ | 6,_ | 7,_=>decide)
 simp only[finF];rw[if_neg (hn 0 (by decide)),if_neg (hn 1 (by decide)),if_neg (hn 2 (by decide)),if_neg (hn 3 (by decide)),if_neg (hn 4 (by decide)),if_neg (hn 5 (by decide)),if_neg (hn 6 (by decide)),if_neg (hn 7 (by decide))]
theorem l45 (a v:Bs) (fd:Bool) (sh:LL):∀ (d i:Nat) (k:Int),i+d=8 ->
  execX G0 L45_0 (ST [(0,.ptr 0 0),(5,.str a),(6,.str v),(7,.bool fd),(8,.int .i64 k),(18,.agg nms),(19,.int .i64 i)] [] sh)=some (.ex 0,ST [(0,.ptr 0 0),(5,.str a),(6,.str v),(7,.bool fd),(8,.int .i64 (finF a d i k)),(18,.agg nms),(19,.int .i64 8),(20,.bool false)] [] sh)
 | 0,i,k,h=>by
  have:i=8:=by omega
  subst this;have ec:((8:Nat):Int)=8:=rfl;rw[Y_loop (L:=L45_0) rfl];simp only[go_sem,ec,finF,Int.lt_irrefl]
 | d+1,i,k,h=>by
  have hi:i < 8:=by omega
  have h0:(0:Int)<=(i:Int):=by omega
  have h1:(i:Int) < 8:=by omega
  have hw:IntKind.i64.wrap ((i:Int)+1)=((i+1:Nat):Int):=by rw[w64 (by omega) (by omega)];rfl
  have ht:=nms_at i hi;have hl:nms.length=8:=rfl;have ih:=l45 a v fd sh d (i+1) (if fnm.getD i []=a then (i:Int) else k) (by omega);show _=some (AX.ex 0,ST [(0,.ptr 0 0),(5,.str a),(6,.str v),(7,.bool fd),(8,.int .i64 (finF a d (i+1) (if fnm.getD i []=a then (i:Int) else k))),(18,.agg nms),(19,.int .i64 8),(20,.bool false)] [] sh);rw[<- ih]
  conv=>lhs;rw[Y_loop (L:=L45_0) rfl]
  generalize fnm.getD i []=q at ht;by_cases hq:q=a
  ·have hq':(q == a)=true:=by simpa using hq
   rw[if_pos hq];simp only[go_sem,h0,h1,hl,ht,hq',hw]
  ·have hq':(q == a)=false:=by simpa using hq
   rw[if_neg hq];simp only[go_sem,h0,h1,hl,ht,hq',hw]
theorem VE.be {e:En} (h:VE e):BE e:=by
 have u1:=vld_tot h.vS;have u2:=vld_tot h.vT;have u3:=nm_len h.na;have u4:=nm_len h.nj;have len:∀ {s:Bs},perr s=0->s.length<=50000:=fun {s} hp=>by
  obtain⟨c1,c2,_⟩:=parse_canon (s:=s) (g:=(parse s).1) (b:=(parse s).2.1) (by rw[<- hp];rfl)
  have:=fmE_len (f:=(parse s).1)
  unfold fmE at this;rw[if_pos c1,c2] at this;exact this
 exact⟨by omega,by omega,by omega,by omega,len h.pp,len h.pn,by omega,by omega⟩
theorem set_be {k:Nat} {v:Bs} {e:En} (hk:k < 8) (hb:BE e) (hv:v.length<=50000) (h:(setE k v e).1=0):BE (setE k v e).2/\(k < 7->(setE k v e).2.o=e.o):=by
 have hp:∀ h:(parse v).2.2=0,(parse v).1.length<=600/\tot (parse v).1<=50000:=fun h=>by
  have c:=(parse_canon (s:=v) (g:=(parse v).1) (b:=(parse v).2.1) (by rw[<- h])).1
  have:=vld_tot c
  omega
 match k,hk with
 | 0,_=>exact⟨⟨(hp h).1,(hp h).2,hb.T,hb.tT,hb.p,hb.n,hb.a,hb.j⟩,fun _=>rfl⟩
 | 1,_=>exact⟨⟨hb.S,hb.sT,(hp h).1,(hp h).2,hb.p,hb.n,hb.a,hb.j⟩,fun _=>rfl⟩
 | 2,_=>exact⟨⟨hb.S,hb.sT,hb.T,hb.tT,hv,hb.n,hb.a,hb.j⟩,fun _=>rfl⟩
 | 3,_=>exact⟨⟨hb.S,hb.sT,hb.T,hb.tT,hb.p,hv,hb.a,hb.j⟩,fun _=>rfl⟩
 | 4,_=>exact⟨⟨hb.S,hb.sT,hb.T,hb.tT,hb.p,hb.n,hv,hb.j⟩,fun _=>rfl⟩
 | 5,_=>exact⟨⟨hb.S,hb.sT,hb.T,hb.tT,hb.p,hb.n,hb.a,hv⟩,fun _=>rfl⟩
 | 6,_ =>
  have hs:(setE 6 v e).2=(match numX v 1073741824 with | some n=>if n=0 then ((2:Int),e) else (0,{ e with c:=(n:Int) }) | none=>((2:Int),e)).2:=rfl;rw[hs]
  cases numX v 1073741824 with
  | none=>exact⟨hb,fun _=>rfl⟩
  | some n =>
   by_cases q:n=0
   ·simp only[if_pos q];exact⟨hb,fun _=>trivial⟩
   ·simp only[if_neg q];exact⟨⟨hb.S,hb.sT,hb.T,hb.tT,hb.p,hb.n,hb.a,hb.j⟩,fun _=>trivial⟩
 | 7,_ =>
  have hs:(setE 7 v e).2=(match idx orn v with | some i=>((0:Int),{ e with o:=(i:Int)+1 }) | none=>((2:Int),e)).2:=rfl;rw[hs]
  cases idx orn v with
  | none=>exact⟨hb,fun q=>absurd q (by decide)⟩
  | some n=>exact⟨⟨hb.S,hb.sT,hb.T,hb.tT,hb.p,hb.n,hb.a,hb.j⟩,fun q=>absurd q (by decide)⟩
structure RK (b x y:Bool) (r:Rd) (last:Bs):Prop where
 e:BE r.e
 o:r.e.o=0
 x:1<=r.k->x=true
 y:2<=r.k->y=true
 l:last=lsK r.m
theorem zE_be:BE zE:=⟨by decide,by decide,by decide,by decide,by decide,by decide,by decide,by decide⟩
theorem RK.zero (b x y:Bool) (m:List En):RK b x y ⟨m,zE,0⟩ (lsK m):=⟨zE_be,rfl,fun h=>absurd (show 1<=0 from h) (by decide),fun h=>absurd (show 2<=0 from h) (by decide),rfl⟩
theorem kLine {b x y:Bool} {r:Rd} {last s:Bs} (hs:s.length<=50000) (h:RK b x y r last) (hm:r.m.length<=1000000) :
  ∃ b' x' y' r' last',G0 45 [.ptr 0 0,.str s] [Ro b x y r last]=some (.int .i64 (lineR r s).1,[Ro b' x' y' r' last'])/\((lineR r s).1=0->r'=(lineR r s).2/\RK b' x' y' r' last'/\r'.m.length<=r.m.length+1):=by
 obtain⟨hb,ho,hx,hy,hl⟩:=h;obtain⟨m,e,rk⟩:=r;simp only[] at hb ho hx hy hl hm;subst hl;cases hc:cut 32 s with
 | none =>
  have c1:=c107n hc;have hr:lineR ⟨m,e,rk⟩ s=(2,⟨m,e,rk⟩):=by unfold lineR fld;rw[hc];rfl
  have l:=l45 s [] false [Ro b x y ⟨m,e,rk⟩ (lsK m)] 8 0 (-1) rfl;have ec:((0:Nat):Int)=0:=rfl;rw[ec] at l;refine⟨b,x,y,⟨m,e,rk⟩,lsK m,?_,by rw[hr];intro z;cases z⟩;rw[hr];refine contract F45 rfl rfl rfl ?_;simp only[Ro] at l ⊢;simp only[F45,go_sem,c1,c68',l,rf_ok]
 | some p =>
  obtain⟨a,v⟩:=p;have c1:=c107y (by omega) hc;have hv:v.length<=50000:=by
   have:=(cut_spec.1 hc).1
   rw[this,length_append,length_cons] at hs;omega
  have l:=l45 a v true [Ro b x y ⟨m,e,rk⟩ (lsK m)] 8 0 (-1) rfl;have ec:((0:Nat):Int)=0:=rfl;rw[ec] at l;cases hi:idx fnm a with
  | none =>
   rw[finF_no hi] at l;have hr:lineR ⟨m,e,rk⟩ s=(2,⟨m,e,rk⟩):=by unfold lineR fld;rw[hc,Option.bind_some,hi];rfl
   refine⟨b,x,y,⟨m,e,rk⟩,lsK m,?_,by rw[hr];intro z;cases z⟩;rw[hr];refine contract F45 rfl rfl rfl ?_;simp only[Ro] at l ⊢;simp only[F45,go_sem,c1,c68',l,rf_ok]
  | some k =>
   have hk:=(List.getElem?_eq_some_iff.1 (idx_at hi)).1;have hk:k < 8:=hk;have ha:fnm.getD k []=a:=by rw[getD_eq_getElem?_getD,idx_at hi];rfl
   rw[<- ha,finF_at k hk,ha] at l;have hf:fld s=some (k,v):=by unfold fld;rw[hc,Option.bind_some,hi];rfl
   have f1:=kFits b x y ⟨m,e,rk⟩ (lsK m) k;have hn:¬ (k:Int) < 0:=by omega
   have hn2:((k:Int) < 0)=False:=eq_false hn;have hr0:lineR ⟨m,e,rk⟩ s=if may ⟨m,e,rk⟩ k v=true then (if (setE k v e).1≠0 then ((setE k v e).1,⟨m,e,rk⟩) else if k=7 then (behE m (setE k v e).2,⟨m++[(setE k v e).2],zE,0⟩) else (0,⟨m,(setE k v e).2,k+1⟩)) else (2,⟨m,e,rk⟩):=by unfold lineR;rw[hf]
   have hmay:may ⟨m,e,rk⟩ k v=((if rk < 2 then decide (k=rk) else decide (rk<=k)) && !(decide (v=[]) && decide (2<=k))):=rfl;have hve:(v == [])=decide (v=[]):=by cases v<;>rfl
   have hge:((2:Int)<=(k:Int))=(2<=k):=propext (by omega);have f1:G0 76 [.ptr 0 0,.int .i64 k] [Ro b x y ⟨m,e,rk⟩ (lsK m)]=some (.bool (if rk < 2 then decide (k=rk) else decide (rk<=k)),[Ro b x y ⟨m,e,rk⟩ (lsK m)]):=f1;cases hfit:(if rk < 2 then decide (k=rk) else decide (rk<=k)) with
   | false =>
    rw[hfit] at f1 hmay;rw[hmay,Bool.false_and,if_neg (by decide)] at hr0;refine⟨b,x,y,⟨m,e,rk⟩,lsK m,?_,by rw[hr0];intro z;cases z⟩;rw[hr0];refine contract F45 rfl rfl rfl ?_;simp only[Ro] at l f1 ⊢;simp only[F45,go_sem,c1,c68',l,f1,hn,rf_ok,decide_false]
   | true =>
    rw[hfit] at f1 hmay;rw[Bool.true_and] at hmay;by_cases hve0:v=[]/\2<=k
    ·have h2k:(2:Int)<=(k:Int):=by omega
     rw[hmay,decide_eq_true hve0.1,decide_eq_true hve0.2,if_neg (by decide)] at hr0;rw[decide_eq_true hve0.1] at hve;refine⟨b,x,y,⟨m,e,rk⟩,lsK m,?_,by rw[hr0];intro z;cases z⟩;rw[hr0];refine contract F45 rfl rfl rfl ?_;simp only[Ro] at l f1 ⊢;simp only[F45,go_sem,c1,c68',l,f1,hn,hve,h2k,rf_ok,decide_false,decide_true]
    ·have hm1:may ⟨m,e,rk⟩ k v=true:=by
      rw[hmay];by_cases z:v=[]
      ·rw[decide_eq_false (fun q=>hve0 ⟨z,q⟩),Bool.and_false];rfl
      ·rw[decide_eq_false z,Bool.false_and];rfl
     rw[if_pos hm1] at hr0;have f2:=kField b x y m e rk (lsK m) v hv ho k hk;have hrk:k=rk\/(2<=rk/\rk<=k):=by
      by_cases z:rk < 2
      ·rw[if_pos z] at hfit;exact .inl (by simpa using hfit)
      ·rw[if_neg z] at hfit;exact .inr ⟨by omega,by simpa using hfit⟩
     have hpk:∀ (A:Prop),(v=[]/\2<=k->A):=fun A z=>absurd z hve0
     have hguard:(decide (v=[])=true/\¬ (2:Int)<=(k:Int))\/decide (v=[])=false:=by
      by_cases z:v=[]
      ·exact .inl ⟨decide_eq_true z,fun q=>hve0 ⟨z,by omega⟩⟩
      ·exact .inr (decide_eq_false z)
     by_cases he:(setE k v e).1=0
     case neg =>
      rw[if_pos he] at hr0;refine⟨b,(x || decide (k=0)),(y || decide (k=1)),⟨m,(setE k v e).2,rk⟩,lsK m,?_,by rw[hr0];intro z;exact absurd z he⟩;rw[hr0];refine contract F45 rfl rfl rfl ?_;simp only[Ro] at l f1 f2 ⊢;rcases hguard with ⟨z1,z2⟩ | z1
      ·rw[z1] at hve
       simp only[F45,go_sem,c1,c68',l,f1,f2,hn,hve,z2,he,rf_ok,decide_false,decide_true,not_false_eq_true]
      ·rw[z1] at hve
       simp only[F45,go_sem,c1,c68',l,f1,f2,hn,hve,he,rf_ok,decide_false,decide_true,not_false_eq_true]
     rw[if_neg (by simp [he])] at hr0;rw[he] at f2;obtain⟨b1,b2⟩:=set_be hk hb hv he;have hw:IntKind.i64.wrap ((k:Int)+1)=((k+1:Nat):Int):=by rw[w64 (by omega) (by omega)];rfl
     by_cases h7:k=7
     ·subst h7
      have hx1:x=true:=hx (by omega);have hy1:y=true:=hy (by omega);subst hx1;subst hy1;have f3:=kEnd b m (setE 7 v e).2 8 b1 hm;rw[if_pos rfl] at hr0;have e7:((7:Nat):Int)=7:=rfl;have e8:((7+1:Nat):Int)=8:=rfl;have e8':((8:Nat):Int)=8:=rfl;have hn7:¬ (7:Int) < 0:=by decide
      rw[e7] at l f1 f2 hguard;by_cases hbz:behE m (setE 7 v e).2=0
      ·rw[hbz,if_pos rfl] at f3
       rw[hbz] at hr0;refine⟨true,true,true,⟨m++[(setE 7 v e).2],zE,0⟩,keyE (setE 7 v e).2,?_,fun _=>?_⟩;rw[hr0];refine contract F45 rfl rfl rfl ?_;simp only[Ro,e8',ec] at l f1 f2 f3 ⊢;rcases hguard with ⟨z1,z2⟩ | z1
       ·rw[z1] at hve
        simp only[F45,go_sem,c1,c68',l,f1,f2,f3,hn7,hve,z2,e8,rf_ok,decide_false,decide_true,not_true_eq_false,Bool.true_or]
       ·rw[z1] at hve
        simp only[F45,go_sem,c1,c68',l,f1,f2,f3,hn7,hve,e8,rf_ok,decide_false,decide_true,not_true_eq_false,Bool.true_or]
       rw[hr0];refine⟨rfl,?_,?_⟩
       ·rw[<- lsK_s m];exact RK.zero _ _ _ _
       ·show (m++[(setE 7 v e).2]).length<=m.length+1
        simp
      ·rw[if_neg hbz] at f3
       refine⟨b,true,true,⟨m,(setE 7 v e).2,8⟩,lsK m,?_,by rw[hr0];intro z;exact absurd z hbz⟩;rw[hr0];refine contract F45 rfl rfl rfl ?_;simp only[Ro,e8',ec] at l f1 f2 f3 ⊢;rcases hguard with ⟨z1,z2⟩ | z1
       ·rw[z1] at hve
        simp only[F45,go_sem,c1,c68',l,f1,f2,f3,hn7,hve,z2,e8,rf_ok,decide_false,decide_true,not_true_eq_false,Bool.true_or]
       ·rw[z1] at hve
        simp only[F45,go_sem,c1,c68',l,f1,f2,f3,hn7,hve,e8,rf_ok,decide_false,decide_true,not_true_eq_false,Bool.true_or]
     ·rw[if_neg h7] at hr0
      have h7':¬ (k:Int)=7:=by omega
      refine⟨b,(x || decide (k=0)),(y || decide (k=1)),⟨m,(setE k v e).2,k+1⟩,lsK m,?_,fun _=>?_⟩
      ·rw[hr0]
       refine contract F45 rfl rfl rfl ?_;simp only[Ro] at l f1 f2 ⊢;rcases hguard with ⟨z1,z2⟩ | z1
       ·rw[z1] at hve
        simp only[F45,go_sem,c1,c68',l,f1,f2,hn,hve,z2,hw,h7',rf_ok,decide_false,decide_true,not_true_eq_false]
       ·rw[z1] at hve
        simp only[F45,go_sem,c1,c68',l,f1,f2,hn,hve,hw,h7',rf_ok,decide_false,decide_true,not_true_eq_false]
      ·rw[hr0]
       refine⟨rfl,⟨b1,(b2 (by omega)).trans ho,fun q=>?_,fun q=>?_,rfl⟩,Nat.le_succ _⟩
       ·rcases hrk with z | z
        ·by_cases z0:k=0
         ·simp [z0]
         ·rw[hx (by omega)];rfl
        ·rw[hx (by omega)];rfl
       ·have q:2<=k+1:=q
        rcases hrk with z | z
        ·by_cases z0:k=1
         ·simp [z0]
         ·rw[hy (by omega)];rfl
        ·rw[hy (by omega)];rfl
end Go.Av
namespace Go.Av
open Go.Nt
theorem lp21 (cnt:Int):∀ (d:Nat) (rest:Bs) (b x y:Bool) (r:Rd) (last:Bs) (n:Nat),rest.length<=d->rest.length<=50000->RK b x y r last->r.m.length+rest.length<=100000->n+rest.length<=100000 ->
  (((runL (lns rest).1 r n).1=0/\(lns rest).2=[]->∃ b' x' y' last',execX G0 L21_0 (ST [(3,.int .i64 n),(6,.str rest),(10,.int .i64 cnt),(12,.ptr 0 0),(17,.bool false),(43,.bool false)] [] [Ro b x y r last])=some (.ex 0,ST [(3,.int .i64 (runL (lns rest).1 r n).2.1),(6,.str []),(10,.int .i64 cnt),(12,.ptr 0 0),(17,.bool false),(43,.bool false),(47,.bool false)] [] [Ro b' x' y' (runL (lns rest).1 r n).2.2 last'])/\(runL (lns rest).1 r n).2.1<=100000) /\
   (¬ ((runL (lns rest).1 r n).1=0/\(lns rest).2=[])->∃ l' sh',execX G0 L21_0 (ST [(3,.int .i64 n),(6,.str rest),(10,.int .i64 cnt),(12,.ptr 0 0),(17,.bool false),(43,.bool false)] [] [Ro b x y r last])=some (.ret,ST l' [] sh')/\look .any l' 2=.sl .full 8 []/\look .any l' 3=.int .i64 (if (runL (lns rest).1 r n).1≠0 then ((runL (lns rest).1 r n).2.1:Int) else ((runL (lns rest).1 r n).2.1:Int)+1)/\look .any l' 4=.int .i64 (if (runL (lns rest).1 r n).1≠0 then (runL (lns rest).1 r n).1 else 2)))
 | d,rest,b,x,y,r,last,n,hd,hl,hk,hm,hn=>by
  by_cases h0:rest=[]
  ·subst h0
   refine⟨fun _=>⟨b,x,y,last,?_,by show n<=100000;omega⟩,fun h=>absurd ⟨rfl,rfl⟩ h⟩;rw[Y_loop (L:=L21_0) rfl];simp only[go_sem,lns,runL]
  have hne:(rest != [])=true:=by simpa using h0
  have hw:IntKind.i64.wrap ((n:Int)+1)=((n+1:Nat):Int):=by rw[w64 (by omega) (by omega)];rfl
  cases hc:cut 10 rest with
  | none =>
   have c1:=c107n hc;have hq:=lns_uncut hc;rw[hq];refine⟨fun h=>absurd h.2 h0,fun _=>?_⟩;refine Exists.intro ?_ (Exists.intro ?_ (And.intro ?_ ?_))
   rotate_left 2
   ·rw[Y_loop (L:=L21_0) rfl]
    simp only[go_sem,hne,c1,hw];rfl
   ·refine⟨rfl,?_,?_⟩
    ·show AV.int .i64 ((n+1:Nat):Int)=.int .i64 ((n:Int)+1)
     rfl
    ·rfl
  | some p =>
   obtain⟨t,w⟩:=p;have c1:=c107y (by omega) hc;have hs:=(cut_spec.1 hc).1;have hlen:rest.length=t.length+1+w.length:=by rw[hs,length_append,length_cons];omega
   obtain⟨b',x',y',r',last',k1,k2⟩:=kLine (s:=t) (by omega) hk (by omega);rw[lns_cut hc,runL_c];by_cases he:(lineR r t).1=0
   ·obtain⟨q1,q2,q3⟩:=k2 he
    subst q1;rw[he] at k1
    match d,hd with
    | 0,hd=>exact absurd hd (by omega)
    | d'+1,hd =>
     have ih:=lp21 cnt d' w b' x' y' (lineR r t).2 last' (n+1) (by omega) (by omega) q2 (by omega) (by omega);rw[if_neg (by simp [he])];have step:execX G0 L21_0 (ST [(3,.int .i64 n),(6,.str rest),(10,.int .i64 cnt),(12,.ptr 0 0),(17,.bool false),(43,.bool false)] [] [Ro b x y r last])=execX G0 L21_0 (ST [(3,.int .i64 ((n+1:Nat):Int)),(6,.str w),(10,.int .i64 cnt),(12,.ptr 0 0),(17,.bool false),(43,.bool false)] [] [Ro b' x' y' (lineR r t).2 last']):=by
      conv=>lhs;rw[Y_loop (L:=L21_0) rfl]
      simp only[Ro] at k1 ⊢;simp only[go_sem,hne,c1,hw,k1,rf_ok,not_true_eq_false,decide_false]
     rw[step];exact ih
   ·rw[if_pos he]
    refine⟨fun h=>absurd h.1 he,fun _=>?_⟩;refine Exists.intro ?_ (Exists.intro ?_ (And.intro ?_ ?_))
    rotate_left 2
    ·rw[Y_loop (L:=L21_0) rfl]
     simp only[Ro] at k1 ⊢;simp only[go_sem,hne,c1,hw,k1,rf_ok,he,not_false_eq_true,decide_true,decide_false];rfl
    ·refine⟨rfl,?_,?_⟩
     ·rw[if_pos he];rfl
     ·rw[if_pos he];rfl
def finP (n:Nat) (rr:Bs) (q:Int × Nat × Rd):List En × Nat × Int:=if q.1≠0 then ([],q.2.1,q.1) else if rr≠[]\/q.2.2.k≠0 then ([],q.2.1+1,2) else if q.2.2.m.length≠n then ([],1,2) else (q.2.2.m,0,0)
def pL (h:Bs) (ls:List Bs) (rr:Bs):List En × Nat × Int:=match hdN h with
 | none=>([],1,2)
 | some n=>finP n rr (runL ls ⟨[],zE,0⟩ 1)
theorem pM_c {s h rr:Bs} {ls:List Bs} (hs:s.length<=1048576) (hl:lns s=(h :: ls,rr)):pM s=pL h ls rr:=by
 unfold pM pL;rw[if_neg (by omega),hl]
 cases e:hdN h with
 | none=>simp only[e]
 | some n=>simp only[e,finP]
theorem pM_n {s rr:Bs} (hs:s.length<=1048576) (hl:lns s=([],rr)):pM s=([],1,2):=by
 unfold pM;rw[if_neg (by omega),hl]
theorem pL_n {h rr:Bs} {ls:List Bs} (e:hdN h=none):pL h ls rr=([],1,2):=by unfold pL;rw[e]
theorem pL_s {h rr:Bs} {ls:List Bs} {n:Nat} (e:hdN h=some n):pL h ls rr=finP n rr (runL ls ⟨[],zE,0⟩ 1):=by unfold pL;rw[e]
theorem kParse (s:Bs) (hs:s.length<=50000):G0 21 [.str s] []=some (.tup [.sl .no 8 (ens (pM s).1),.int .i64 ((pM s).2.1:Nat),.int .i64 (pM s).2.2],[]):=by
 have hz:¬ (1048576:Int) < (s.length:Int):=by omega
 have e1:(((1:Nat)):Int)=1:=rfl;have e0:(((0:Nat)):Int)=0:=rfl;have ec:((1024:Nat):Int)=1024:=rfl;have en:ens []=[]:=rfl;refine contract F21 rfl rfl rfl ?_;cases hc:cut 10 s with
 | none =>
  have c1:=c107n hc;rw[pM_n (by omega) (lns_uncut hc)];obtain⟨p1,p2⟩:=kCutP s hdB;obtain⟨k,b,g1,g2,_⟩:=kn44 s 1024;cases ha:after hdB s with
  | none =>
   have p2:=p2 ha;rw[ec] at g1;simp only[hdB] at p2;simp only[F21,go_sem,hz,c1,p2,g1,e1,en]
  | some v =>
   have p1:=p1 v ha;obtain⟨k,b,g1,g2,_⟩:=kn44 v 1024;rw[ec] at g1;simp only[hdB] at p1;simp only[F21,go_sem,hz,c1,p1,g1,e1,en]
 | some p =>
  obtain⟨t,w⟩:=p;have c1:=c107y (by omega) hc;have hsq:=(cut_spec.1 hc).1;have hlen:s.length=t.length+1+w.length:=by rw[hsq,length_append,length_cons];omega
  obtain⟨p1,p2⟩:=kCutP t hdB;rw[pM_c (by omega) (lns_cut hc)];cases ha:after hdB t with
  | none =>
   have p2:=p2 ha;have hh:hdN t=none:=by unfold hdN;rw[ha];rfl
   obtain⟨k,b,g1,g2,_⟩:=kn44 t 1024;rw[ec] at g1;simp only[hdB] at p2;rw[pL_n hh];simp only[F21,go_sem,hz,c1,p2,g1,e1,en]
  | some v =>
   have p1:=p1 v ha;have hh:hdN t=numX v 1024:=by unfold hdN;rw[ha];rfl
   obtain⟨k,b,g1,g2,g3⟩:=kn44 v 1024;rw[ec] at g1;simp only[hdB] at p1;cases hn:numX v 1024 with
   | none =>
    rw[hn] at g2 hh;rw[pL_n hh];have g2:b=false:=g2;subst g2;simp only[F21,go_sem,hz,c1,p1,g1,e1,en]
   | some cn =>
    rw[hn] at g2 hh;rw[pL_s hh];unfold finP;have g2:b=true:=g2;subst g2;have g3:=g3 cn hn;subst g3;obtain⟨x1,x2⟩:=lp21 cn w.length w false false false ⟨[],zE,0⟩ [] 1 (Nat.le_refl _) (by omega) (RK.zero _ _ _ []) (by simp;omega) (by omega);have r0:Ro false false false ⟨[],zE,0⟩ []=[.sl .full 8 [],.sl .full 3 [],.sl .full 3 [],.str [],.str [],.str [],.str [],.int .i64 0,.int .i64 0,.str [],.int .i64 0]:=rfl;rw[r0,e1] at x1 x2;by_cases hq:(runL (lns w).1 ⟨[],zE,0⟩ 1).1=0/\(lns w).2=[]
    ·obtain⟨b',x',y',last',y1,y2⟩:=x1 hq
     rw[if_neg (by simp [hq.1])];generalize runL (lns w).1 ⟨[],zE,0⟩ 1=q at hq y1 y2 ⊢;obtain⟨qe,qn,qm,qE,qk⟩:=q;simp only[] at hq y1 y2 ⊢;rw[hq.2];simp only[Ro] at y1;by_cases h1:qk=0
     ·have h1':(qk:Int)=0:=by omega
      rw[if_neg (by simp [h1])];by_cases h2:qm.length=cn
      ·have h2':(qm.length:Int)=(cn:Int):=by omega
       rw[if_neg (by simp [h2])];simp only[F21,go_sem,hz,c1,p1,g1,y1,h1',h2',ldV_md,demV_md,demV_mdn,ens_len,e0,not_true_eq_false,decide_false]
      ·have h2':¬ (qm.length:Int)=(cn:Int):=by omega
       rw[if_pos h2];simp only[F21,go_sem,hz,c1,p1,g1,y1,h1',h2',ldV_md,demV_md,demV_mdn,ens_len,e1,en,not_true_eq_false,not_false_eq_true,decide_true,decide_false]
     ·have h1':¬ (qk:Int)=0:=by omega
      have hw:IntKind.i64.wrap ((qn:Int)+1)=((qn+1:Nat):Int):=by rw[w64 (by omega) (by omega)];rfl
      rw[if_pos (.inr h1)];simp only[F21,go_sem,hz,c1,p1,g1,y1,h1',hw,en,not_false_eq_true,decide_true]
    ·obtain⟨l',sh',y1,y2,y3,y4⟩:=x2 hq
     simp only[F21,go_sem,hz,c1,p1,g1,y1,y2,y3,y4];by_cases hq1:(runL (lns w).1 ⟨[],zE,0⟩ 1).1=0
     ·have hq2:(lns w).2≠[]:=fun z=>hq ⟨hq1,z⟩
      rw[if_neg (by simp [hq1]),if_neg (by simp [hq1]),if_neg (by simp [hq1]),if_pos (.inl hq2)];rfl
     ·rw[if_pos hq1,if_pos hq1,if_pos hq1]
      rfl
end Go.Av
namespace Go.Av
open Go.Nt
def Oe (x y:Bool) (e:En):List AV:=[.sl (mdn x) 3 (tks e.S),.sl (mdn y) 3 (tks e.T),.str e.p,.str e.n,.str e.a,.str e.j,.int .i64 e.c,.int .i64 e.o]
theorem oe_ok (m2 m3:Own) (l2 l3:LL) (a b c d:Bs) (i j:Int):refsOk false 1 [[.sl m2 3 l2,.sl m3 3 l3,.str a,.str b,.str c,.str d,.int .i64 i,.int .i64 j]]=true:=rfl
theorem c71':G0 71 [] []=some (.sl .no 1 (strs orn),[]):=by
 refine contract F71 rfl rfl rfl ?_;have e:mksA 1 [.str []] 3 [0,1,2] [.str [104,117,109,97,110],.str [97,108,105,103,110,101,100],.str [109,97,99,104,105,110,101]]=some (.sl .full 1 (strs orn)):=rfl;simp only[F71,go_sem,e]
theorem c40':G0 40 [] []=some (.sl .no 1 (strs fnm),[]):=by
 refine contract F40 rfl rfl rfl ?_;have e:mksA 1 [.str []] 8 [0,1,2,3,4,5,6,7] [.str [115,111,117,114,99,101],.str [116,97,114,103,101,116],.str [112,114,101,118,105,111,117,115],.str [110,101,120,116],.str [97,117,116,104,111,114],.str [112,114,111,106,101,99,116],.str [99,114,101,97,116,101,100],.str [111,114,105,103,105,110]]=some (.sl .full 1 (strs fnm)):=rfl;simp only[F40,go_sem,e]
def sE (k:Nat) (v:Bs) (e:En):Int:=if v=[]/\2<=k then 2 else (setE k v e).1
theorem lp73 (x y:Bool) (e:En) (k v:AV) (w:Bs) (hv:v=.str w):∀ (d i:Nat),i+d=3 ->
  (∀ j,idx (orn.drop i) w=some j->∃ l',execX G0 L73_0 (ST [(0,.ptr 0 0),(1,.int .i64 7),(2,.str w),(15,.bool false),(55,.bool false),(70,.bool false),(87,.sl .no 1 (strs orn)),(88,.int .i64 3),(89,.int .i64 i)] [] [Oe x y e])=some (.ret,ST l' [] [Oe x y { e with o:=((i+j:Nat):Int)+1 }])/\look .any l' 6=.int .i64 0) /\
  (idx (orn.drop i) w=none->execX G0 L73_0 (ST [(0,.ptr 0 0),(1,.int .i64 7),(2,.str w),(15,.bool false),(55,.bool false),(70,.bool false),(87,.sl .no 1 (strs orn)),(88,.int .i64 3),(89,.int .i64 i)] [] [Oe x y e])=some (.ex 2,ST [(0,.ptr 0 0),(1,.int .i64 7),(2,.str w),(15,.bool false),(55,.bool false),(70,.bool false),(87,.sl .no 1 (strs orn)),(88,.int .i64 3),(89,.int .i64 3),(90,.bool false)] [] [Oe x y e]))
 | 0,i,h=>by
  have:i=3:=by omega
  subst this;refine⟨fun j hj=>(by cases hj),fun _=>?_⟩;have ec:((3:Nat):Int)=3:=rfl;rw[Y_loop (L:=L73_0) rfl];simp only[go_sem,ec,Int.lt_irrefl]
 | d+1,i,h=>by
  have hi:i < 3:=by omega
  have h0:(0:Int)<=(i:Int):=by omega
  have h1:(i:Int) < 3:=by omega
  have hw:IntKind.i64.wrap ((i:Int)+1)=((i+1:Nat):Int):=by rw[w64 (by omega) (by omega)];rfl
  have hw2:IntKind.i64.wrap ((i:Int)+1)=(i:Int)+1:=by rw[w64 (by omega) (by omega)]
  have hl:i < orn.length:=hi;have hg:orn[i]?=some orn[i]:=getElem?_eq_getElem hl;have hd:orn.drop i=orn[i] :: orn.drop (i+1):=drop_eq_getElem_cons hl;generalize orn[i]=q at hg hd;have hr:=strs_at hg;have ih:=lp73 x y e k v w hv d (i+1) (by omega);rw[hd];unfold idx;by_cases hq:q=w
  ·have hq':(q == w)=true:=by simpa using hq
   rw[if_pos hq];refine⟨fun j hj=>?_,fun z=>(by cases z)⟩;cases hj;refine Exists.intro ?_ (And.intro ?_ ?_)
   rotate_left 1
   ·rw[Y_loop (L:=L73_0) rfl]
    simp only[go_sem,Oe,h0,h1,hr,hq',hw2,Nat.add_zero];rfl
   ·rfl
  ·have hq':(q == w)=false:=by simpa using hq
   rw[if_neg hq];have step:execX G0 L73_0 (ST [(0,.ptr 0 0),(1,.int .i64 7),(2,.str w),(15,.bool false),(55,.bool false),(70,.bool false),(87,.sl .no 1 (strs orn)),(88,.int .i64 3),(89,.int .i64 i)] [] [Oe x y e])=execX G0 L73_0 (ST [(0,.ptr 0 0),(1,.int .i64 7),(2,.str w),(15,.bool false),(55,.bool false),(70,.bool false),(87,.sl .no 1 (strs orn)),(88,.int .i64 3),(89,.int .i64 ((i+1:Nat):Int))] [] [Oe x y e]):=by
    conv=>lhs;rw[Y_loop (L:=L73_0) rfl]
    simp only[go_sem,h0,h1,hr,hq',hw]
   rw[step];refine⟨fun j hj=>?_,fun z=>ih.2 (by simpa using z)⟩;obtain⟨j',h2,rfl⟩:=Option.map_eq_some_iff.1 hj
   have:=ih.1 j' h2
   rwa [show i+1+j'=i+(j'+1) by omega] at this
theorem kSet (x y:Bool) (e:En) (v:Bs) (hv:v.length<=50000) (k:Nat) (hk:k < 8) :
  ∃ e' x' y',G0 73 [.ptr 0 0,.int .i64 k,.str v] [Oe x y e]=some (.int .i64 (sE k v e),[Oe x' y' e'])/\(sE k v e=0->e'=(setE k v e).2/\x'=(x || decide (k=0))/\y'=(y || decide (k=1))):=by
 have p:=c36 v hv;have mT:mdn true=.no:=rfl;have hvb:(v == [])=decide (v=[]):=by cases v<;>rfl
 have hset4:∀ k,k < 4->(setE k v e).1=if k < 2 then (parse v).2.2 else (parse v).2.2:=fun k hk=>by
  match k,hk with
  | 0,_ | 1,_ | 2,_ | 3,_=>rfl
 match k,hk with
 | 0,_ =>
  have hs:sE 0 v e=(parse v).2.2:=by unfold sE;rw[if_neg (by omega)];rfl
  by_cases q:(parse v).2.2=0
  ·refine⟨_,_,_,?_,fun _=>⟨rfl,rfl,rfl⟩⟩
   rw[hs];refine contract F73 rfl rfl rfl ?_;simp only[F73,go_sem,Oe,p,q,oe_ok,setE,Bool.or_true,Bool.or_false,mT,not_true_eq_false,decide_false]
  ·refine⟨e,x,y,?_,fun z=>absurd (hs.symm.trans z) q⟩
   rw[hs];refine contract F73 rfl rfl rfl ?_;simp only[F73,go_sem,Oe,p,q,oe_ok,not_false_eq_true,decide_true]
 | 1,_ =>
  have hs:sE 1 v e=(parse v).2.2:=by unfold sE;rw[if_neg (by omega)];rfl
  by_cases q:(parse v).2.2=0
  ·refine⟨_,_,_,?_,fun _=>⟨rfl,rfl,rfl⟩⟩
   rw[hs];refine contract F73 rfl rfl rfl ?_;simp only[F73,go_sem,Oe,p,q,oe_ok,setE,Bool.or_true,Bool.or_false,mT,not_true_eq_false,decide_false]
  ·refine⟨e,x,y,?_,fun z=>absurd (hs.symm.trans z) q⟩
   rw[hs];refine contract F73 rfl rfl rfl ?_;simp only[F73,go_sem,Oe,p,q,oe_ok,not_false_eq_true,decide_true]
 | 2,_ =>
  by_cases z0:v=[]
  ·have hs:sE 2 v e=2:=by unfold sE;rw[if_pos ⟨z0,by decide⟩]
   rw[decide_eq_true z0] at hvb;refine⟨e,x,y,?_,fun z=>(by rw[hs] at z;cases z)⟩;rw[hs];refine contract F73 rfl rfl rfl ?_;simp only[F73,go_sem,Oe,hvb,oe_ok]
  rw[decide_eq_false z0] at hvb;have hs:sE 2 v e=(parse v).2.2:=by unfold sE;rw[if_neg (fun z=>z0 z.1)];rfl
  by_cases q:(parse v).2.2=0
  ·refine⟨_,_,_,?_,fun _=>⟨rfl,rfl,rfl⟩⟩
   rw[hs];refine contract F73 rfl rfl rfl ?_;simp only[F73,go_sem,Oe,p,q,hvb,oe_ok,setE,Bool.or_true,Bool.or_false,mT,not_true_eq_false,decide_false]
  ·refine⟨e,x,y,?_,fun z=>absurd (hs.symm.trans z) q⟩
   rw[hs];refine contract F73 rfl rfl rfl ?_;simp only[F73,go_sem,Oe,p,q,hvb,oe_ok,not_false_eq_true,decide_true]
 | 3,_ =>
  by_cases z0:v=[]
  ·have hs:sE 3 v e=2:=by unfold sE;rw[if_pos ⟨z0,by decide⟩]
   rw[decide_eq_true z0] at hvb;refine⟨e,x,y,?_,fun z=>(by rw[hs] at z;cases z)⟩;rw[hs];refine contract F73 rfl rfl rfl ?_;simp only[F73,go_sem,Oe,hvb,oe_ok]
  rw[decide_eq_false z0] at hvb;have hs:sE 3 v e=(parse v).2.2:=by unfold sE;rw[if_neg (fun z=>z0 z.1)];rfl
  by_cases q:(parse v).2.2=0
  ·refine⟨_,_,_,?_,fun _=>⟨rfl,rfl,rfl⟩⟩
   rw[hs];refine contract F73 rfl rfl rfl ?_;simp only[F73,go_sem,Oe,p,q,hvb,oe_ok,setE,Bool.or_true,Bool.or_false,mT,not_true_eq_false,decide_false]
  ·refine⟨e,x,y,?_,fun z=>absurd (hs.symm.trans z) q⟩
   rw[hs];refine contract F73 rfl rfl rfl ?_;simp only[F73,go_sem,Oe,p,q,hvb,oe_ok,not_false_eq_true,decide_true]
 | 4,_ =>
  by_cases z0:v=[]
  ·have hs:sE 4 v e=2:=by unfold sE;rw[if_pos ⟨z0,by decide⟩]
   rw[decide_eq_true z0] at hvb;refine⟨e,x,y,?_,fun z=>(by rw[hs] at z;cases z)⟩;rw[hs];refine contract F73 rfl rfl rfl ?_;simp only[F73,go_sem,Oe,hvb,oe_ok]
  rw[decide_eq_false z0] at hvb;have hs:sE 4 v e=0:=by unfold sE;rw[if_neg (fun z=>z0 z.1)];rfl
  refine⟨_,_,_,?_,fun _=>⟨rfl,rfl,rfl⟩⟩;rw[hs];refine contract F73 rfl rfl rfl ?_;simp only[F73,go_sem,Oe,hvb,oe_ok,setE,Bool.or_false]
 | 5,_ =>
  by_cases z0:v=[]
  ·have hs:sE 5 v e=2:=by unfold sE;rw[if_pos ⟨z0,by decide⟩]
   rw[decide_eq_true z0] at hvb;refine⟨e,x,y,?_,fun z=>(by rw[hs] at z;cases z)⟩;rw[hs];refine contract F73 rfl rfl rfl ?_;simp only[F73,go_sem,Oe,hvb,oe_ok]
  rw[decide_eq_false z0] at hvb;have hs:sE 5 v e=0:=by unfold sE;rw[if_neg (fun z=>z0 z.1)];rfl
  refine⟨_,_,_,?_,fun _=>⟨rfl,rfl,rfl⟩⟩;rw[hs];refine contract F73 rfl rfl rfl ?_;simp only[F73,go_sem,Oe,hvb,oe_ok,setE,Bool.or_false]
 | 6,_ =>
  obtain⟨n,bb,g1,g2,g3⟩:=kn72 v 1073741824;have ec:((1073741824:Nat):Int)=1073741824:=rfl;rw[ec] at g1;have hs0:setE 6 v e=(match numX v 1073741824 with | some n=>if n=0 then ((2:Int),e) else (0,{ e with c:=(n:Int) }) | none=>((2:Int),e)):=rfl;have hs:sE 6 v e=(setE 6 v e).1:=by
   unfold sE;by_cases z:v=[]
   ·subst z;rfl
   ·rw[if_neg (fun q=>z q.1)]
  cases hn:numX v 1073741824 with
  | none =>
   rw[hn] at g2 hs0;have g2:bb=false:=g2;subst g2;refine⟨e,x,y,?_,fun z=>(by rw[hs,hs0] at z;cases z)⟩;rw[hs,hs0];refine contract F73 rfl rfl rfl ?_;simp only[F73,go_sem,Oe,g1,oe_ok]
  | some k =>
   rw[hn] at g2 hs0;have g2:bb=true:=g2;subst g2;have g3:=g3 k hn;subst g3;by_cases q:k=0
   ·subst q
    have q':(((0:Nat):Int) == 0)=true:=rfl;refine⟨e,x,y,?_,fun z=>(by rw[hs,hs0] at z;cases z)⟩;rw[hs,hs0];refine contract F73 rfl rfl rfl ?_;simp only[F73,go_sem,Oe,g1,oe_ok,q',if_true]
   ·have q':¬ (k:Int)=0:=by omega
    refine⟨(setE 6 v e).2,x,y,?_,fun _=>⟨rfl,by simp,by simp⟩⟩;rw[hs,hs0];refine contract F73 rfl rfl rfl ?_;simp only[F73,go_sem,Oe,g1,oe_ok,int_eqb,q,q',decide_false,if_false]
 | 7,_ =>
  have hs0:setE 7 v e=(match idx orn v with | some i=>((0:Int),{ e with o:=(i:Int)+1 }) | none=>((2:Int),e)):=rfl;have hs:sE 7 v e=(setE 7 v e).1:=by
   unfold sE;by_cases z:v=[]
   ·subst z;rfl
   ·rw[if_neg (fun q=>z q.1)]
  have ec:((0:Nat):Int)=0:=rfl;obtain⟨l1,l2⟩:=lp73 x y e (.int .i64 7) (.str v) v rfl 3 0 rfl;rw[drop_zero] at l1 l2;have hl:(strs orn).length=3:=rfl;cases hi:idx orn v with
  | none =>
   rw[hi] at hs0;have l2:=l2 hi;rw[ec] at l2;refine⟨e,x,y,?_,fun z=>(by rw[hs,hs0] at z;cases z)⟩;rw[hs,hs0];refine contract F73 rfl rfl rfl ?_;simp only[Oe] at l2 ⊢;simp only[F73,go_sem,c71',hl,l2,oe_ok]
  | some j =>
   rw[hi] at hs0;obtain⟨l',y1,y2⟩:=l1 j hi;rw[ec,Nat.zero_add] at y1;refine⟨(setE 7 v e).2,x,y,?_,fun _=>⟨rfl,by simp,by simp⟩⟩;rw[hs,hs0];refine contract F73 rfl rfl rfl ?_;simp only[Oe] at y1 ⊢;simp only[F73,go_sem,c71',hl,y1,y2,oe_ok]
end Go.Av
namespace Go.Av
open Go.Nt
theorem jn_len (l:List Bs):l.length<=(jn l).length:=by
 induction l with
 | nil=>exact Nat.le_refl _
 | cons a l ih=>rw[jn_cons,length_append,length_cons,length_cons];omega
theorem jn_s (l:List Bs) (s:Bs):jn (l++[s])=jn l++(s++[10]):=by rw[jn_app];simp [jn]
theorem l20 (s:Bs) (hs:s.length<=1000000):∀ (w:Bs) (b:Bool) (ls:List Bs) (rr:Bs),s=jn ls++(rr++w)->(∀ l∈ls,(10:UInt8) ∉ l)->(10:UInt8) ∉ rr ->
  ∃ b',execX G0 L20_0 (ST [(0,.str s),(2,.sl (md b) 1 (strs ls)),(4,.int .i64 (jn ls).length),(5,.int .i64 ((jn ls).length+rr.length:Nat))] [] [])=some (.ex 0,ST [(0,.str s),(2,.sl (md b') 1 (strs (lns s).1)),(4,.int .i64 (jn (lns s).1).length),(5,.int .i64 s.length),(9,.bool false)] [] [])
 | [],b,ls,rr,h,h1,h2=>by
  have hl:s.length=(jn ls).length+rr.length:=by rw[h];simp
  have e:=lns_app h1 h2;rw[show jn ls++rr=s by rw[h];simp] at e;rw[e,<- hl];refine⟨b,?_⟩;rw[Y_loop (L:=L20_0) rfl];simp only[go_sem,Int.lt_irrefl]
 | c :: w,b,ls,rr,h,h1,h2=>by
  have hl:s.length=(jn ls).length+rr.length+1+w.length:=by rw[h];simp;omega
  have h3:(((jn ls).length+rr.length:Nat):Int) < (s.length:Int):=by omega
  have h0:(0:Int)<=(((jn ls).length+rr.length:Nat):Int):=by omega
  have h5:s[(jn ls).length+rr.length]?=some c:=by rw[h,<- append_assoc,getElem?_append_right (by simp)];simp
  have hw:IntKind.i64.wrap ((((jn ls).length+rr.length:Nat):Int)+1)=(((jn ls).length+rr.length+1:Nat):Int):=by rw[w64 (by omega) (by omega)];rfl
  by_cases q:c=10
  ·have q':((c.toNat:Int)=10)=True:=eq_true (by rw[q];rfl)
   obtain⟨b',ih⟩:=l20 s hs w true (ls++[rr]) [] (by rw[h,q,jn_s];simp) (fun l hm=>by
    rcases mem_append.1 hm with z | z
    ·exact h1 l z
    ·rw[mem_singleton.1 z];exact h2) (by simp)
   have hj:(jn (ls++[rr])).length=(jn ls).length+rr.length+1:=by rw[jn_s];simp;omega
   rw[hj] at ih;refine⟨b',?_⟩;have g1:(0:Int)<=((jn ls).length:Int):=by omega
   have g2:((jn ls).length:Int)<=(((jn ls).length+rr.length:Nat):Int):=by omega
   have g3:(((jn ls).length+rr.length:Nat):Int)<=(s.length:Int):=by omega
   have g4:(s.take ((jn ls).length+rr.length)).drop (jn ls).length=rr:=by
    rw[h,<- append_assoc,show (jn ls).length+rr.length=(jn ls++rr).length by simp,take_left',drop_left']
    ·rfl
    ·rfl
   have ha:=app_s b ls rr (by have:=jn_len ls;omega);rw[<- ih]
   conv=>lhs;rw[Y_loop (L:=L20_0) rfl]
   simp only[go_sem,h3,h5,h0,q',g1,g2,g3,g4,ha,hw,int_eqb,ldV_md,decide_true];rfl
  ·have q':¬ (c.toNat:Int)=10:=fun z=>q (by
    have:c.toNat=(10:UInt8).toNat:=by have:(10:UInt8).toNat=10:=rfl;omega
    exact UInt8.toNat_inj.1 this)
   obtain⟨b',ih⟩:=l20 s hs w b ls (rr++[c]) (by rw[h];simp) h1 (fun hm=>by
    rcases mem_append.1 hm with z | z
    ·exact h2 z
    ·exact q (mem_singleton.1 z).symm)
   have e1:((jn ls).length+(rr++[c]).length:Nat)=(jn ls).length+rr.length+1:=by simp;omega
   rw[e1] at ih;refine⟨b',?_⟩;rw[<- ih]
   conv=>lhs;rw[Y_loop (L:=L20_0) rfl]
   simp only[go_sem,h3,h5,h0,q',hw,int_eqb,decide_false]
def lnR (s:Bs):List Bs:=(lns s).1++if (lns s).2=[] then [] else [(lns s).2]
theorem kLines (s:Bs) (hs:s.length<=1000000):G0 20 [.str s] []=some (.tup [.sl .no 1 (strs (lnR s)),.bool (decide ((lns s).2=[]))],[]):=by
 obtain⟨b,h⟩:=l20 s hs s false [] [] rfl (by simp) (by simp);have e0:((jn []).length:Int)=0:=rfl;have e1:(((jn []).length+([]:Bs).length:Nat):Int)=0:=rfl;have e2:md false=.full:=rfl;have e3:strs []=[]:=rfl;rw[e0,e1,e2,e3] at h;have hj:=lns_join s;have hl:s.length=(jn (lns s).1).length+(lns s).2.length:=by rw[<- length_append,hj]
 have g1:(0:Int)<=((jn (lns s).1).length:Int):=by omega
 have g2:((jn (lns s).1).length:Int)<=(s.length:Int):=by omega
 have g4:s.drop (jn (lns s).1).length=(lns s).2:=by
  generalize (lns s).1=p at *;generalize (lns s).2=t at *;rw[<- hj];exact drop_left
 refine contract F20 rfl rfl rfl ?_;unfold lnR;generalize (lns s).1=p at *;generalize (lns s).2=t at *;by_cases q:t=[]
 ·subst q
  have g3:¬ ((jn p).length:Int) < (s.length:Int):=by have:([]:Bs).length=0:=rfl;omega
  rw[if_pos rfl,decide_eq_true rfl,append_nil];simp only[F20,go_sem,h,g3,ldV_md,demV_md]
 ·have g3:((jn p).length:Int) < (s.length:Int):=by
   have:t.length≠0:=fun z=>q (length_eq_zero_iff.1 z)
   omega
  have ha:=app_s b p t (by have:=jn_len p;omega);rw[if_neg q,decide_eq_false q];simp only[F20,go_sem,h,g1,g2,g3,g4,ha,ldV_md,demV_md]
end Go.Av
namespace Go.Av
open Go.Nt
def aft (t:Bs) (i:Nat):Option Bs:=after (fnm.getD i []++[32]) t
theorem aft_at {t v:Bs} {i:Nat} (hi:i < 8) (h:aft t i=some v):fld t=some (i,v):=by
 have:=after_some h
 rw[this,show (fnm.getD i []++[32])++v=lnK i v by simp [lnK]];exact fld_ln hi v
theorem at_aft {t v:Bs} {i:Nat} (h:fld t=some (i,v)):aft t i=some v:=by
 have:=(fld_some h).2
 unfold aft;rw[this,show lnK i v=(fnm.getD i []++[32])++v by simp [lnK]];exact after_app _ _
def finG (t:Bs):Nat->Nat->Int × Bs->Int × Bs
 | 0,_,k=>k
 | d+1,i,k=>finG t d (i+1) (match aft t i with
  | some v=>((i:Int),v)
  | none=>k)
theorem finG_no {t:Bs} (h:fld t=none) (k:Int × Bs):∀ d i,i+d=8->finG t d i k=k
 | 0,i,hi=>rfl
 | d+1,i,hi=>by
  have e:aft t i=none:=by
   cases q:aft t i with
   | none=>rfl
   | some v=>rw[aft_at (by omega) q] at h;cases h
  unfold finG;rw[e];exact finG_no h k d (i+1) (by omega)
theorem finG_at {t v:Bs} {k:Nat} (h:fld t=some (k,v)):∀ d i (q:Int × Bs),i+d=8->(k < i->q=((k:Int),v))->finG t d i q=((k:Int),v)
 | 0,i,q,hi,hq=>hq (by have:=(fld_some h).1;omega)
 | d+1,i,q,hi,hq=>by
  unfold finG;by_cases z:i=k
  ·subst z
   rw[at_aft h];exact finG_at h d (i+1) _ (by omega) (fun _=>rfl)
  ·have e:aft t i=none:=by
    cases q:aft t i with
    | none=>rfl
    | some v =>
     have:=aft_at (by omega) q
     rw[h] at this;exact absurd (congrArg Prod.fst (Option.some.inj this)).symm z
   rw[e];exact finG_at h d (i+1) _ (by omega) (fun q=>hq (by omega))
theorem fnm_at {i:Nat} (hi:i < 8):fnm[i]?=some (fnm.getD i []):=by
 match i,hi with
 | 0,_ | 1,_ | 2,_ | 3,_ | 4,_ | 5,_ | 6,_ | 7,_=>rfl
theorem fnm_len {i:Nat} (hi:i < 8):(fnm.getD i []).length<=140737488355327:=by
 match i,hi with
 | 0,_ | 1,_ | 2,_ | 3,_ | 4,_ | 5,_ | 6,_ | 7,_=>decide
theorem l41a (L:List Bs) (t:Bs) (cp:Bool) (N last:Int) (b:Bool) (m:List En) (j:Nat) (hj:L[j]?=some t) (sh:LL):∀ (d i:Nat) (q:Int × Bs),i+d=8 ->
  execX G0 L41_0 (ST [(5,.sl .no 1 (strs L)),(6,.bool cp),(9,.int .i64 N),(11,.sl (md b) 8 (ens m)),(12,.ptr 0 0),(13,.int .i64 last),(14,.int .i64 j),(15,.int .i64 q.1),(16,.str q.2),(25,.bool false),(42,.bool false),(60,.bool false),(64,.bool true),(75,.bool false),(78,.sl .no 1 (strs fnm)),(79,.int .i64 8),(80,.int .i64 i)] [] sh)=some (.ex 2,ST [(5,.sl .no 1 (strs L)),(6,.bool cp),(9,.int .i64 N),(11,.sl (md b) 8 (ens m)),(12,.ptr 0 0),(13,.int .i64 last),(14,.int .i64 j),(15,.int .i64 (finG t d i q).1),(16,.str (finG t d i q).2),(25,.bool false),(42,.bool false),(60,.bool false),(64,.bool true),(75,.bool false),(78,.sl .no 1 (strs fnm)),(79,.int .i64 8),(80,.int .i64 8),(81,.bool false)] [] sh)
 | 0,i,q,h=>by
  have:i=8:=by omega
  subst this;have ec:((8:Nat):Int)=8:=rfl;rw[Y_loop (L:=L41_0) rfl];simp only[go_sem,ec,finG,Int.lt_irrefl]
 | d+1,i,q,h=>by
  have hi:i < 8:=by omega
  have h0:(0:Int)<=(i:Int):=by omega
  have h1:(i:Int) < 8:=by omega
  have hj0:(0:Int)<=(j:Int):=by omega
  have hw:IntKind.i64.wrap ((i:Int)+1)=((i+1:Nat):Int):=by rw[w64 (by omega) (by omega)];rfl
  have hr:=strs_at hj;have hf:=strs_at (fnm_at hi);have hfl:=fnm_len hi;obtain⟨k1,k2⟩:=kAft t (fnm.getD i []++[32])
  have ih:=l41a L t cp N last b m j hj sh d (i+1) (match aft t i with
   | some v=>((i:Int),v)
   | none=>q) (by omega)
  show _=some (AX.ex 2,ST [(5,.sl .no 1 (strs L)),(6,.bool cp),(9,.int .i64 N),(11,.sl (md b) 8 (ens m)),(12,.ptr 0 0),(13,.int .i64 last),(14,.int .i64 j),(15,.int .i64 (finG t d (i+1) (match aft t i with
   | some v=>((i:Int),v)
   | none=>q)).1),(16,.str (finG t d (i+1) (match aft t i with
   | some v=>((i:Int),v)
   | none=>q)).2),(25,.bool false),(42,.bool false),(60,.bool false),(64,.bool true),(75,.bool false),(78,.sl .no 1 (strs fnm)),(79,.int .i64 8),(80,.int .i64 8),(81,.bool false)] [] sh)
  rw[<- ih]
  conv=>lhs;rw[Y_loop (L:=L41_0) rfl]
  cases e:aft t i with
  | none =>
   have k2:=k2 e;simp only[go_sem,h0,h1,hj0,hr,hf,hfl,k2,hw]
  | some v =>
   have k1:=k1 v e;simp only[go_sem,h0,h1,hj0,hr,hf,hfl,k1,hw]
structure RB (x y:Bool) (r:Rd) (e:En):Prop where
 b:BE r.e
 m:∀ f∈r.m,BE f
 x:1<=r.k->x=true
 y:2<=r.k->y=true
 n:r.k≠0->e=r.e
 z:r.k=0->r.e=zE
theorem lineR_n {r:Rd} {t:Bs} (h:fld t=none):lineR r t=(2,r):=by unfold lineR;rw[h]
theorem lineR_s {r:Rd} {t:Bs} {k:Nat} {v:Bs} (h:fld t=some (k,v)) (hf:(if r.k < 2 then k=r.k else r.k<=k)):(lineR r t).1=if sE k v r.e≠0 then sE k v r.e else if k=7 then behE r.m (setE k v r.e).2 else 0:=by
 unfold lineR;rw[h];have hm:may r k v=!(decide (v=[]) && decide (2<=k)):=by
  unfold may;by_cases q:r.k < 2
  ·rw[if_pos q] at hf ⊢;rw[decide_eq_true hf,Bool.true_and]
  ·rw[if_neg q] at hf ⊢;rw[decide_eq_true hf,Bool.true_and]
 show (if may r k v=true then _ else _:Int × Rd).1=_;rw[hm];unfold sE;by_cases z:v=[]/\2<=k
 ·rw[decide_eq_true z.1,decide_eq_true z.2,if_neg (by decide),if_pos z,if_pos (by decide)]
 ·have e:(!(decide (v=[]) && decide (2<=k)))=true:=by
   by_cases a:v=[]
   ·rw[decide_eq_false (fun b=>z ⟨a,b⟩),Bool.and_false];rfl
   ·rw[decide_eq_false a,Bool.false_and];rfl
  rw[e,if_pos rfl,if_neg z];by_cases q:(setE k v r.e).1≠0
  ·rw[if_pos q,if_pos q]
  ·rw[if_neg q,if_neg q]
   by_cases w:k=7
   ·rw[if_pos w,if_pos w]
   ·rw[if_neg w,if_neg w]
theorem lineR_f {r:Rd} {t:Bs} {k:Nat} {v:Bs} (h:fld t=some (k,v)) (hf:¬ (if r.k < 2 then k=r.k else r.k<=k)):lineR r t=(2,r):=by
 unfold lineR;rw[h];have hm:may r k v=false:=by
  unfold may;by_cases q:r.k < 2
  ·rw[if_pos q] at hf ⊢;rw[decide_eq_false hf,Bool.false_and]
  ·rw[if_neg q] at hf ⊢;rw[decide_eq_false hf,Bool.false_and]
 show (if may r k v=true then _ else _:Int × Rd)=_;rw[hm];rfl
theorem lineR_z {r:Rd} {t:Bs} {k:Nat} {v:Bs} (h:fld t=some (k,v)) (h0:(lineR r t).1=0):sE k v r.e=0/\(setE k v r.e).1=0/\(lineR r t).2=if k=7 then ⟨r.m++[(setE k v r.e).2],zE,0⟩ else ⟨r.m,(setE k v r.e).2,k+1⟩:=by
 unfold lineR at h0 ⊢;rw[h] at h0 ⊢;simp only[] at h0 ⊢;by_cases q:may r k v=true
 case neg=>rw[if_neg q] at h0;cases h0
 rw[if_pos q] at h0 ⊢;by_cases w:(setE k v r.e).1≠0
 ·rw[if_pos w] at h0;exact absurd h0 w
 have w':=Decidable.not_not.1 w;rw[if_neg w];refine⟨?_,w',?_⟩
 ·unfold sE
  unfold may at q;rw[Bool.and_eq_true] at q;rw[if_neg (fun z=>by rw[decide_eq_true z.1,decide_eq_true z.2] at q;exact absurd q.2 (by decide))];exact w'
 ·by_cases z:k=7
  ·rw[if_pos z,if_pos z]
  ·rw[if_neg z,if_neg z]
end Go.Av
