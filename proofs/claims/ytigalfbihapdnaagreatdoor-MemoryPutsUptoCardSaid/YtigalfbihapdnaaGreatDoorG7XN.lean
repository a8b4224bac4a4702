/- Put and with as functions that hand out objects. No conditions. Put and made as functions that hand out objects. No conditions. What sees the memory as an object: keys, clones. No conditions. memory.Put, Delete where the memory is an object. No conditions. bitextref16.Delete where the memory is an object; Put, Delete of no memory. No conditions. The law MemoryPuts: its loops. No conditions. The law MemoryPuts. No conditions. -/
import Derived.Test.YtigalfbihapdnaaGreatDoorG7Sf
import Derived.Test.YtigalfbihapdnaaGreatDoorG7XM
import Derived.Test.YtigalfbihapdnaaGreatDoorG7XJ
open List
set_option linter.unusedSimpArgs false
set_option linter.unusedVariables false
set_option linter.unusedSectionVars false
set_option maxRecDepth 100000
set_option maxHeartbeats 16000000
namespace Go.Av
open Go.Nt
def FT (sh:LL):Prop:=∀ (i:Nat) c,1<=i->sh[i]?=some c->c.all flatB=true\/c=dead
theorem FT.app {sh:LL} (h:FT sh) {c:List AV} (hc:c.all flatB=true):FT (sh++[c]):=by
 intro i x hi hx;by_cases q:i < sh.length
 ·rw[getElem?_append_left q] at hx;exact h i x hi hx
 ·rw[getElem?_append_right (by omega)] at hx
  rcases mem_singleton.1 (mem_of_getElem? hx) with rfl
  exact .inl hc
theorem FT.kill {sh:LL} (h:FT sh) (o:Nat):FT (sh.set o dead):=by
 intro i x hi hx;rw[getElem?_set] at hx
 split at hx
 ·split at hx
  ·cases hx;exact .inr rfl
  ·cases hx
 ·exact h i x hi hx
theorem FT.head {c c':List AV} {R:LL} (h:FT (c :: R)):FT (c' :: R):=by
 intro i x hi hx;obtain⟨j,rfl⟩:∃ j,i=j+1:=⟨i - 1,by omega⟩
 exact h (j+1) x hi hx
theorem appN (sh:LL) (h1:1<=sh.length) (hF:FT sh) (Y:List En) (hY:1<=Y.length) (hl:Y.length<=100000):∃ o' S,o'=sh.length/\appSA 8 128 sh (some (ens Y)) (.sl .full 8 [])=some (.ss o' 0 Y.length 8,S)/\S[o']?=some (cls Y)/\FT S/\1<=S.length/\S.take sh.length=sh/\∀ (k:Nat) c,sh[k]?=some c->S[k]?=some c:=by
 refine⟨sh.length,sh++[cls Y],rfl,?_,by simp,hF.app (cls_flat Y),by simp,take_left,fun k c hk=>?_⟩
 ·cases Y with
  | nil=>simp at hY
  | cons e Y =>
   have ha:appOK 128 ((ens Y).length+1)=true:=appOK_le (by decide) (by rw[ens_len];simp at hl;omega);rw[ens_cons,appSA_nil 8 128 8 (by decide),if_pos ha,ens_len];rfl
 ·rw[getElem?_append_left (List.getElem?_eq_some_iff.1 hk).1];exact hk
theorem appG (sh:LL) (h1:1<=sh.length) (hF:FT sh) (o:Nat) (X Y:List En) (ho:sh[o]?=some (cls X)) (hl:X.length+Y.length<=100000):∃ o' S,o'=sh.length/\appSA 8 128 sh (some (ens Y)) (.ss o 0 X.length 8)=some (.ss o' 0 (X++Y).length 8,S)/\S[o']?=some (cls (X++Y))/\FT S/\1<=S.length/\(∀ n,n<=o->S.take n=sh.take n)/\∀ (k:Nat) c,k≠o->sh[k]?=some c->S[k]?=some c:=by
 have hol:o < sh.length:=(List.getElem?_eq_some_iff.1 ho).1;refine⟨sh.length,sh.set o dead++[cls (X++Y)],rfl,?_,by simp,(hF.kill o).app (cls_flat _),by simp,fun n hn=>?_,fun k c hko hk=>?_⟩
 ·have ha:appOK 128 (X.length+(ens Y).length)=true:=appOK_le (by decide) (by rw[ens_len];omega)
  rw[appSA_ss o X.length 128 8 (by decide),if_pos ha,ho];simp only[Option.bind_some];rw[if_pos ⟨cls_blk X,(cls_len X).symm,nown_all (cls_flat X)⟩,cls_app,ens_len,length_append];rfl
 ·rw[take_append_of_le_length (by simp;omega),take_set_of_le hn]
 ·have hlt:=(List.getElem?_eq_some_iff.1 hk).1
  rw[getElem?_append_left (by simpa using hlt),getElem?_set_ne (Ne.symm hko)];exact hk
def OB (sh:LL) (v:AV) (m:List En):Prop:=(v=.sl .full 8 []/\m=[])\/∃ o,v=.ss o 0 m.length 8/\sh[o]?=some (cls m)/\1<=o
theorem rowsC_pre' (m:List En) (i:Nat) (hi:i<=m.length):rowsC 0 i 8 (cls m)=some (ens (m.take i)):=by
 have:=rowsC_mid [] (m.take i) (m.drop i)
 rw[nil_append,take_append_drop,length_take,Nat.min_eq_left hi] at this;exact this
theorem rowsC_suf (m:List En) (i:Nat) (hi:i<=m.length):rowsC (i*8) (m.length - i) 8 (cls m)=some (ens (m.drop i)):=by
 have:=rowsC_mid (m.take i) (m.drop i) []
 rw[append_nil,take_append_drop,length_take,length_drop,Nat.min_eq_left hi] at this;exact this
theorem app00 (sh:LL):appSA 8 128 sh (some []) (.sl .full 8 [])=some (.sl .full 8 [],sh):=rfl
attribute [-go_sem] appSA_ss appSA_nil
theorem k72p (sh:LL) (h1:1<=sh.length) (hF:FT sh) (v:AV) (m:List En) (hO:OB sh v m) (hl:m.length<=2000) (i:Nat) (e:En) (f:Nat) (hi:i+f<=m.length) :
  ∃ o' sh',Gp 72 [v,.int .i64 i,.agg (rowE e),.int .i64 f] sh=some (.ss o' 0 (m.take i++[e]++m.drop (i+f)).length 8,sh')/\sh'[o']?=some (cls (m.take i++[e]++m.drop (i+f)))/\1<=o'/\FT sh'/\1<=sh'.length/\sh'.take sh.length=sh:=by
 have g0:(0:Int)<=(i:Int):=by omega
 have g1:(i:Int)<=(m.length:Int):=by omega
 have hw:IntKind.i64.wrap ((i:Int)+(f:Int))=((i+f:Nat):Int):=by rw[w64 (by omega) (by omega)];rfl
 have g2:(0:Int)<=((i+f:Nat):Int):=by omega
 have g3:((i+f:Nat):Int)<=(m.length:Int):=by omega
 rcases hO with ⟨rfl,rfl⟩ | ⟨o,rfl,ho,ho1⟩
 ·have z1:i=0:=by simp at hi;omega
  have z2:f=0:=by simp at hi;omega
  subst z1;subst z2;obtain⟨o2,S2,e2,p2,q2,f2,l2,t2,r2⟩:=appN sh h1 hF [e] (by simp) (by simp);obtain⟨o3,S3,e3,p3,q3,f3,l3,t3,r3⟩:=appG S2 l2 f2 o2 [e] [] q2 (by simp);have p1:=app00 sh;rw[ens_nil] at p3;simp only[append_nil,length_singleton] at p3 q3;refine⟨o3,S3,?_,by simpa using q3,by omega,f3,l3,?_⟩
  ·have ec:((0:Nat):Int)=0:=rfl
   simp only[length_nil] at g1 g3;simp only[take_nil,drop_nil,nil_append,append_nil,length_singleton];refine contract F72p rfl rfl rfl ?_;simp only[F72p,rowE,go_sem,ec,p1,mks8,ens_one,p2,p3]
  ·rw[t3 sh.length (by omega),t2]
 ·have hlt:o < sh.length:=(List.getElem?_eq_some_iff.1 ho).1
  have c1:=rowsC_pre' m i (by omega);have c2:=rowsC_suf m (i+f) (by omega);by_cases hi0:i=0
  ·subst hi0
   obtain⟨o2,S2,e2,p2,q2,f2,l2,t2,r2⟩:=appN sh h1 hF [e] (by simp) (by simp);obtain⟨o3,S3,e3,p3,q3,f3,l3,t3,r3⟩:=appG S2 l2 f2 o2 [e] (m.drop (0+f)) q2 (by simp;omega);have p1:=app00 sh;have ho2:=r2 o _ ho;have ec:((0:Nat):Int)=0:=rfl;refine⟨o3,S3,?_,by simpa using q3,by omega,f3,l3,?_⟩
   ·simp only[take_zero,nil_append] at c1 ⊢
    rw[ens_nil] at c1;simp only[length_singleton] at p2 p3;rw[ec] at g0 g1 hw;refine contract F72p rfl rfl rfl ?_;rw[Nat.zero_add] at c2 p3 g2 g3;have hw':IntKind.i64.wrap (f:Int)=(f:Int):=w64 (by omega) (by omega);by_cases hc:((f:Nat):Int)=0\/((f:Nat):Int) < (m.length:Int)
    ·simp only[F72p,rowE,go_sem,ec,g0,g1,g2,g3,hw',hc,ho,ho2,Int.toNat_natCast,Nat.zero_add,c1,c2,p1,mks8,ens_one,p2,p3]
    ·have hdn:m.drop f=[]:=drop_eq_nil_of_le (by omega)
     rw[hdn,ens_nil] at p3;rw[Nat.zero_add,hdn];simp only[F72p,rowE,go_sem,ec,g0,g1,g2,g3,hw',hc,ho,ho2,Int.toNat_natCast,Nat.zero_add,c1,p1,mks8,ens_one,p2,p3]
   ·rw[t3 sh.length (by omega),t2]
  ·have hti:(m.take i).length=i:=by rw[length_take];omega
   obtain⟨o1,S1,e1,p1,q1,f1,l1,t1,r1⟩:=appN sh h1 hF (m.take i) (by omega) (by omega);obtain⟨o2,S2,e2,p2,q2,f2,l2,t2,r2⟩:=appG S1 l1 f1 o1 (m.take i) [e] q1 (by simp;omega);obtain⟨o3,S3,e3,p3,q3,f3,l3,t3,r3⟩:=appG S2 l2 f2 o2 (m.take i++[e]) (m.drop (i+f)) q2 (by simp;omega);have ho1':=r1 o _ ho;have ho2:=r2 o _ (by omega) ho1';have hS1:sh.length < S1.length:=by rw[<- e1];exact (List.getElem?_eq_some_iff.1 q1).1
   refine⟨o3,S3,?_,q3,by omega,f3,l3,?_⟩
   ·rw[hti] at p1 p2
    refine contract F72p rfl rfl rfl ?_;by_cases hc:((i+f:Nat):Int)=0\/((i+f:Nat):Int) < (m.length:Int)
    ·simp only[F72p,rowE,go_sem,g0,g1,g2,g3,hw,hc,ho,ho2,Int.toNat_natCast,Nat.zero_add,c1,c2,p1,mks8,ens_one,p2,p3]
    ·have hdn:m.drop (i+f)=[]:=drop_eq_nil_of_le (by omega)
     rw[hdn,ens_nil] at p3;rw[hdn];simp only[F72p,rowE,go_sem,g0,g1,g2,g3,hw,hc,ho,ho2,Int.toNat_natCast,Nat.zero_add,c1,p1,mks8,ens_one,p2,p3]
   ·rw[t3 sh.length (by omega),t2 sh.length (by omega),t1]
end Go.Av
namespace Go.Av
open Go.Nt
theorem cls_at (m:List En) (i:Nat) (e:En) (h:m[i]?=some e):((cls m).drop (i*8)).take 8=rowE e:=by
 have hi:i < m.length:=(List.getElem?_eq_some_iff.1 h).1;have hd:m.drop i=e :: m.drop (i+1):=by
  rw[drop_eq_getElem_cons hi];rw[getElem?_eq_getElem hi] at h;cases h;rfl
 rw[cls_split m i,hd,cls_cons,<- take_len (by omega:i<=m.length),drop_left];exact take_left (l₁:=rowE e)
theorem k30p (sh:LL) (h1:1<=sh.length) (hF:FT sh) (v:AV) (m:List En) (hO:OB sh v m) (hl:m.length<=2000) (hB:∀ e∈m,BE e) (e:En) (he:BE e) :
  ∃ v' sh',Gp 30 [v,.agg (rowE e)] sh=some (.tup [v',.int .i64 (putE m e)],sh')/\OB sh' v' (putV m e)/\FT sh'/\1<=sh'.length/\sh'.take sh.length=sh:=by
 have a1:=upp (k32 m (by omega) hB) rfl;have hrw:=rowsC_n (m:=m) rfl;have ht:sh.take sh.length=sh:=take_length;cases hq:okM m with
 | false =>
  rw[hq] at a1;rw[(putE_1 hq).1,(putE_1 hq).2];refine⟨.sl .full 8 [],sh,?_,.inl ⟨rfl,rfl⟩,hF,h1,ht⟩;rcases hO with ⟨rfl,rfl⟩ | ⟨o,rfl,ho,ho1⟩
  ·rw[ens_nil] at a1
   refine contract F30p rfl rfl rfl ?_;simp only[F30p,rowE,go_sem,a1,Bool.not_false]
  ·refine contract F30p rfl rfl rfl ?_
   simp only[F30p,rowE,go_sem,ho,hrw,a1,Bool.not_false]
 | true =>
 rw[hq] at a1;have h2:=((okM_iff m).1 hq).2;have a2:=upp (k38 e he) rfl;by_cases hv:vE e=0
 case neg =>
  rw[(putE_2 hq hv).1,(putE_2 hq hv).2];simp only[rowE] at a2;refine⟨.sl .full 8 [],sh,?_,.inl ⟨rfl,rfl⟩,hF,h1,ht⟩;rcases hO with ⟨rfl,rfl⟩ | ⟨o,rfl,ho,ho1⟩
  ·rw[ens_nil] at a1
   refine contract F30p rfl rfl rfl ?_;simp only[F30p,rowE,go_sem,a1,a2,Bool.not_true,ne_eq,hv,not_false_eq_true,decide_true]
  ·refine contract F30p rfl rfl rfl ?_
   simp only[F30p,rowE,go_sem,ho,hrw,a1,a2,Bool.not_true,ne_eq,hv,not_false_eq_true,decide_true]
 rw[hv] at a2;have a3:=upp (k26 e he) rfl;have a4:=upp (k71 m (by omega) hB h2 (keyE e)) rfl;have h0:(0:Int)<=((plc m (keyE e):Nat):Int):=by omega
 have hle:=plc_le h2 (keyE e);have e1:((1:Nat):Int)=1:=rfl;have e0:((0:Nat):Int)=0:=rfl;simp only[rowE] at a2 a3;cases hg:getM m (keyE e) with
 | some x =>
  have q:=plc_lt h2 hg;have q':((plc m (keyE e):Nat):Int) < (m.length:Int):=by omega
  have ex:=at_some h2 hg;have a5:=upp (k26 x (hB x (getM_some hg).1)) rfl;rw[(getM_some hg).2] at a5;simp only[rowE] at a5;obtain⟨o',sh',w1,w2,w3,w4,w5,w6⟩:=k72p sh h1 hF v m hO (by omega) (plc m (keyE e)) e 1 (by omega);rw[pt_some h2 hg] at w1 w2;rw[e1] at w1;simp only[rowE] at w1;rw[(putE_0 hq hv (by rw[hg];simp)).1,(putE_0 hq hv (by rw[hg];simp)).2];refine⟨.ss o' 0 (putM m e).length 8,sh',?_,.inr ⟨o',rfl,w2,w3⟩,w4,w5,w6⟩;rcases hO with ⟨rfl,rfl⟩ | ⟨o,rfl,ho,ho1⟩
  ·simp at q
  ·refine contract F30p rfl rfl rfl ?_
   have hr:=cls_at m _ x ex;simp only[rowE] at hr;simp only[F30p,rowE,go_sem,ho,hrw,a1,a2,Bool.not_true,ne_eq,not_true_eq_false,decide_false,a3,a4,q',h0,hr,a5,beq_self_eq_true,w1]
 | none =>
  have hx:∀ x,m[plc m (keyE e)]?=some x->(keyE x == keyE e)=false/\BE x:=fun x hx=>by
   refine⟨by simpa using at_none h2 hg _ hx,hB x (mem_of_getElem? hx)⟩
  by_cases hc:1024<=m.length
  ·have hc':(1024:Int)<=(m.length:Int):=by omega
   rw[(putE_3 hq hv hg hc).1,(putE_3 hq hv hg hc).2];refine⟨.sl .full 8 [],sh,?_,.inl ⟨rfl,rfl⟩,hF,h1,ht⟩;rcases hO with ⟨rfl,rfl⟩ | ⟨o,rfl,ho,ho1⟩
   ·simp at hc
   ·refine contract F30p rfl rfl rfl ?_
    by_cases q:plc m (keyE e) < m.length
    ·have q':((plc m (keyE e):Nat):Int) < (m.length:Int):=by omega
     have ex:m[plc m (keyE e)]?=some m[plc m (keyE e)]:=getElem?_eq_getElem q;generalize m[plc m (keyE e)]=x at ex;obtain⟨hkk,hBx⟩:=hx x ex;have hr:=cls_at m _ x ex;have a5:=upp (k26 x hBx) rfl;simp only[rowE] at a5 hr;simp only[F30p,rowE,go_sem,ho,hrw,a1,a2,Bool.not_true,ne_eq,not_true_eq_false,decide_false,a3,a4,q',h0,hr,a5,hkk,hc']
    ·have q':¬ ((plc m (keyE e):Nat):Int) < (m.length:Int):=by omega
     simp only[F30p,rowE,go_sem,ho,hrw,a1,a2,Bool.not_true,ne_eq,not_true_eq_false,decide_false,a3,a4,q',hc']
  obtain⟨o',sh',w1,w2,w3,w4,w5,w6⟩:=k72p sh h1 hF v m hO (by omega) (plc m (keyE e)) e 0 (by omega);rw[Nat.add_zero,pt_none h2 hg] at w1 w2;rw[e0] at w1;simp only[rowE] at w1;rw[(putE_0 hq hv (by simp;omega)).1,(putE_0 hq hv (by simp;omega)).2];refine⟨.ss o' 0 (putM m e).length 8,sh',?_,.inr ⟨o',rfl,w2,w3⟩,w4,w5,w6⟩;have hc':¬ (1024:Int)<=(m.length:Int):=by omega
  rcases hO with ⟨rfl,rfl⟩ | ⟨o,rfl,ho,ho1⟩
  ·have hp:plc [] (keyE e)=0:=by simpa using hle
   rw[hp,e0] at a4 w1;rw[ens_nil] at a1 a4;refine contract F30p rfl rfl rfl ?_;simp only[F30p,rowE,go_sem,a1,a2,Bool.not_true,ne_eq,not_true_eq_false,decide_false,a3,a4,length_nil,Int.lt_irrefl,w1]
  ·refine contract F30p rfl rfl rfl ?_
   by_cases q:plc m (keyE e) < m.length
   ·have q':((plc m (keyE e):Nat):Int) < (m.length:Int):=by omega
    have ex:m[plc m (keyE e)]?=some m[plc m (keyE e)]:=getElem?_eq_getElem q;generalize m[plc m (keyE e)]=x at ex;obtain⟨hkk,hBx⟩:=hx x ex;have hr:=cls_at m _ x ex;have a5:=upp (k26 x hBx) rfl;simp only[rowE] at a5 hr;simp only[F30p,rowE,go_sem,ho,hrw,a1,a2,Bool.not_true,ne_eq,not_true_eq_false,decide_false,a3,a4,q',h0,hr,a5,hkk,hc',w1]
   ·have q':¬ ((plc m (keyE e):Nat):Int) < (m.length:Int):=by omega
    simp only[F30p,rowE,go_sem,ho,hrw,a1,a2,Bool.not_true,ne_eq,not_true_eq_false,decide_false,a3,a4,q',hc',w1]
theorem frmB_one {G:Calls'} {f:FuncId} {args:List AV} {c c':List AV} {r:AV} (h:G f args [c]=some (r,[c'])) (h1:c.all (refLt 1)=true) (h2:isDead c=false) (h3:args.all (argLt 1)=true) (R:LL):frmB G f args (c :: R)=some (r,c' :: R):=by
 show (G f args [c]).bind (fun p=>if p.2.length=1/\c.all (refLt 1)=true/\isDead c=false/\args.all (argLt 1)=true then some (p.1,p.2++R) else none)=_;rw[h];simp only[Option.bind_some,length_singleton,h1,h2,h3,and_self,if_true,cons_append,nil_append]
theorem g54 (l:List Int) (n:Nat) (m:Int) (hn:n<=1000000) (h1:1<=m) (h2:m<=1000000) (R:LL):Gp 54 [.ptr 0 0,.int .i64 m] (num l n :: R)=some (.int .i64 (nxt l n m),num l (n+1) :: R):=by
 refine Gx_base ?_;exact frmB_one (c41 l n m hn h1 h2) rfl rfl rfl R
theorem g55 (l:List Int) (p:Nat) (hp:p<=80000) (R:LL):∃ n' e,n'<=p+1000/\GE e/\Gp 55 [.ptr 0 0] (num l p :: R)=some (.agg (rowE e),num l n' :: R):=by
 obtain⟨n',e,h1,h2,h3⟩:=k55 l p hp;refine⟨n',e,h1,h2,Gx_base ?_⟩;exact frmB_one h3 rfl rfl rfl R
theorem l25p (l:List Int):∀ (k n:Nat) (m:List En) (v:AV) (R:LL),MG m->OB (num l n :: R) v m->FT (num l n :: R)->m.length+k<=100->n+1000*k<=50000 ->
  ∃ n' m' v' R',MG m'/\m'.length<=m.length+k/\OB (num l n' :: R') v' m'/\FT (num l n' :: R')/\execX Gp L25p_0 (ST [(5,v),(6,.ptr 0 0),(7,.int .i64 k)] [] (num l n :: R))=some (.ex 0,ST [(5,v'),(6,.ptr 0 0),(7,.int .i64 0),(16,.bool false)] [] (num l n' :: R'))
 | 0,n,m,v,R,h,hO,hF,h1,h2=>by
  refine⟨n,m,v,R,h,by omega,hO,hF,?_⟩;rcases hO with ⟨rfl,rfl⟩ | ⟨o,rfl,ho,ho1⟩
  all_goals
   rw[Y_loop (L:=L25p_0) rfl];simp only[go_sem,Int.lt_irrefl]
 | k+1,n,m,v,R,h,hO,hF,h1,h2=>by
  obtain⟨n1,e,a1,a2,a3⟩:=g55 l n (by omega) R;have hO1:OB (num l n1 :: R) v m:=by
   rcases hO with q | ⟨o,q1,q2,q3⟩
   ·exact .inl q
   ·refine .inr ⟨o,q1,?_,q3⟩
    obtain⟨j,rfl⟩:∃ j,o=j+1:=⟨o - 1,by omega⟩
    exact q2
  obtain⟨v1,sh',b1,b2,b4,b5,b6⟩:=k30p (num l n1 :: R) (by simp) hF.head v m hO1 (by omega) h.be e a2.2;rw[(h.putE (by omega) a2).1] at b1;rw[(h.putE (by omega) a2).2] at b2;obtain⟨R',rfl⟩:∃ R',sh'=num l n1 :: R':=by
   cases sh' with
   | nil=>simp at b5
   | cons c R' =>
    simp only[length_cons,take_succ_cons,List.cons.injEq] at b6;exact⟨R',by rw[b6.1]⟩
  have hp:=putM_len m h.1.2 e;obtain⟨n',m',v',R2,c1,c2,c3,c4,c5⟩:=l25p l k n1 (putM m e) v1 R' (h.put a2) b2 b4 (by omega) (by omega);refine⟨n',m',v',R2,c1,by omega,c3,c4,?_⟩;have hk:(0:Int) < ((k+1:Nat):Int):=by omega
  have hwk:IntKind.i64.wrap (((k+1:Nat):Int) - 1)=(k:Int):=by rw[w64 (by omega) (by omega)];omega
  simp only[rowE] at a3 b1;rcases hO with ⟨rfl,rfl⟩ | ⟨o,rfl,ho,ho1⟩<;>rcases b2 with ⟨rfl,_⟩ | ⟨o1,rfl,_,_⟩
  all_goals
   rw[Y_loop (L:=L25p_0) rfl];simp only[go_sem,hk,hwk,a3,b1];exact c5
theorem k25p (l:List Int) (N:Nat) (hN:N<=20):∃ n' m v R,MG m/\m.length<=N/\OB (num l n' :: R) v m/\FT (num l n' :: R)/\Gp 25 [.sl .no 1 (ints l),.int .i64 N] []=some (v,num l n' :: R):=by
 have hb:=nxt_bd l 0 ((N:Int)+1) (by omega);have h36:=g54 l 0 ((N:Int)+1) (by omega) (by omega) (by omega) [];have hc:(((nxt l 0 ((N:Int)+1)).toNat:Nat):Int)=nxt l 0 ((N:Int)+1):=by omega
 have hF0:FT [num l 1]:=fun i c hi hx=>by
  rw[getElem?_eq_none (by simpa using hi)] at hx;cases hx
 obtain⟨n',m,v,R,a1,a2,a3,a4,a5⟩:=l25p l (nxt l 0 ((N:Int)+1)).toNat 1 [] (.sl .full 8 []) [] MG.nil (.inl ⟨rfl,rfl⟩) hF0 (by simp;omega) (by omega);rw[hc] at a5;refine⟨n',m,v,R,a1,by simp at a2;omega,a3,a4,?_⟩;have hw:IntKind.i64.wrap ((N:Int)+1)=(N:Int)+1:=w64 (by omega) (by omega);have hn:num l 0=[.sl .no 1 (ints l),.int .i64 0]:=rfl;rw[hn] at h36;rcases a3 with ⟨rfl,rfl⟩ | ⟨o,rfl,ho,ho1⟩
 all_goals
  refine contract F25p rfl rfl rfl ?_;simp only[F25p,go_sem,hw,h36,a5]
end Go.Av
namespace Go.Av
open Go.Nt
theorem l66p (sh:LL) (o:Nat) (m:List En) (ho:sh[o]?=some (cls m)) (hl:m.length<=2000) (hB:∀ e∈m,BE e):∀ (k i:Nat) (b:Bool),i+k=m.length ->
  (ascF (prv m i) (m.drop i)=true->∃ b',execX Gp L66p_0 (ST [(4,.sl (md b) 1 (strs ((m.take i).map joinE))),(9,.bool false),(10,.ss o 0 m.length 8),(11,.int .i64 m.length),(12,.int .i64 i)] [] sh)=some (.ex 0,ST [(4,.sl (md b') 1 (strs (m.map joinE))),(9,.bool false),(10,.ss o 0 m.length 8),(11,.int .i64 m.length),(12,.int .i64 m.length),(13,.bool false)] [] sh)) /\
  (ascF (prv m i) (m.drop i)=false->∃ l' M,execX Gp L66p_0 (ST [(4,.sl (md b) 1 (strs ((m.take i).map joinE))),(9,.bool false),(10,.ss o 0 m.length 8),(11,.int .i64 m.length),(12,.int .i64 i)] [] sh)=some (.ret,ST l' M sh)/\look .any l' 2=.sl .full 1 []/\look .any l' 3=.bool false)
 | 0,i,b,h=>by
  have:i=m.length:=by omega
  subst this;refine⟨fun _=>⟨b,?_⟩,fun q=>by rw[drop_length] at q;cases q⟩;rw[take_length];rw[Y_loop (L:=L66p_0) rfl];simp only[go_sem,Int.lt_irrefl]
 | k+1,i,b,h=>by
  have hi:i < m.length:=by omega
  have h4:(i:Int) < (m.length:Int):=by omega
  have h0:(0:Int)<=(i:Int):=by omega
  have hw:IntKind.i64.wrap ((i:Int)+1)=((i+1:Nat):Int):=by rw[w64 (by omega) (by omega)];rfl
  have hg:m[i]?=some m[i]:=getElem?_eq_getElem hi;have hd:m.drop i=m[i] :: m.drop (i+1):=drop_eq_getElem_cons hi;have ht:m.take (i+1)=m.take i++[m[i]]:=by rw[take_add_one,hg];rfl
  have hBe:=hB _ (getElem_mem hi);generalize m[i]=e at hg hd ht hBe;have hr:=cls_at m i e hg;have a1:=upp (k23 e hBe) rfl;have a2:=upp (k64 e hBe) rfl;simp only[rowE] at a1 a2 hr;have ha:=app_s b ((m.take i).map joinE) (joinE e) (by simp;omega);have ih:=l66p sh o m ho hl hB k (i+1) true (by omega);rw[prv_s hg,ht,map_append] at ih;have e1:md true=.own:=rfl;rw[e1] at ih;simp only[map_cons,map_nil] at ih;rw[hd];show ((okE _ _ && _)=true->_)/\((okE _ _ && _)=false->_);by_cases q:vE e=0
  case neg =>
   have:okE (prv m i) e=false:=by unfold okE;rw[decide_eq_false q];rfl
   rw[this,Bool.false_and];refine⟨fun z=>(by cases z),fun _=>?_⟩;refine Exists.intro ?_ (Exists.intro ?_ (And.intro ?_ (And.intro ?_ ?_)))
   rotate_left 2
   ·rw[Y_loop (L:=L66p_0) rfl]
    simp only[go_sem,h4,h0,ho,hr,hw,a1,q,ne_eq,not_false_eq_true,decide_true];rfl
   ·rfl
   ·rfl
  have hle:(((m.take i).map joinE)++[joinE e])[i]?=some (joinE e):=by
   rw[getElem?_append_right (by simp;omega)];simp [Nat.min_eq_left (show i<=m.length by omega)]
  have r1:=strs_at hle;by_cases hz0:i=0
  ·have e2:okE (prv m i) e=true:=by unfold okE;rw[decide_eq_true q,hz0];rfl
   have hz:¬ (0:Int) < (i:Int):=by omega
   rw[e2,Bool.true_and];have step:execX Gp L66p_0 (ST [(4,.sl (md b) 1 (strs ((m.take i).map joinE))),(9,.bool false),(10,.ss o 0 m.length 8),(11,.int .i64 m.length),(12,.int .i64 (i:Int))] [] sh)=execX Gp L66p_0 (ST [(4,.sl .own 1 (strs ((m.take i).map joinE++[joinE e]))),(9,.bool false),(10,.ss o 0 m.length 8),(11,.int .i64 m.length),(12,.int .i64 ((i+1:Nat):Int))] [] sh):=by
    conv=>lhs;rw[Y_loop (L:=L66p_0) rfl]
    simp only[go_sem,h4,h0,ho,hr,hw,a1,a2,ha,q,ne_eq,not_true_eq_false,decide_false,demV_md,hz]
   rw[step];exact ih
  obtain⟨j,rfl⟩:∃ j,i=j+1:=⟨i - 1,by omega⟩
  have hgj:m[j]?=some m[j]:=getElem?_eq_getElem (by omega);generalize m[j]=f at hgj;have hlf:(((m.take (j+1)).map joinE)++[joinE e])[j]?=some (joinE f):=by
   rw[getElem?_append_left (by simp;omega),getElem?_map,getElem?_take_of_lt (by omega),hgj];rfl
  have r2:=strs_at hlf;have hj0:(0:Int) < ((j+1:Nat):Int):=by omega
  have hj1:(0:Int)<=((j+1:Nat):Int):=by omega
  have hj2:IntKind.i64.wrap (((j+1:Nat):Int) - 1)=(j:Int):=by rw[w64 (by omega) (by omega)];omega
  have hj3:(0:Int)<=(j:Int):=by omega
  have ep:prv m (j+1)=some (joinE f):=prv_s hgj;rw[ep];cases hlt:ltB (joinE f) (joinE e) with
  | false =>
   have:okE (some (joinE f)) e=false:=by unfold okE;simp [hlt]
   rw[this,Bool.false_and];refine⟨fun z=>(by cases z),fun _=>?_⟩;refine Exists.intro ?_ (Exists.intro ?_ (And.intro ?_ (And.intro ?_ ?_)))
   rotate_left 2
   ·rw[Y_loop (L:=L66p_0) rfl]
    simp only[go_sem,h4,h0,ho,hr,hw,a1,a2,ha,q,ne_eq,not_true_eq_false,decide_false,demV_md,hj0,hj1,hj2,hj3,r1,r2,ge_str,hlt,Bool.not_false,demV_sl];rfl
   ·rfl
   ·rfl
  | true =>
   have:okE (some (joinE f)) e=true:=by unfold okE;simp [hlt,q]
   rw[this,Bool.true_and];have step:execX Gp L66p_0 (ST [(4,.sl (md b) 1 (strs ((m.take (j+1)).map joinE))),(9,.bool false),(10,.ss o 0 m.length 8),(11,.int .i64 m.length),(12,.int .i64 ((j+1:Nat):Int))] [] sh)=execX Gp L66p_0 (ST [(4,.sl .own 1 (strs ((m.take (j+1)).map joinE++[joinE e]))),(9,.bool false),(10,.ss o 0 m.length 8),(11,.int .i64 m.length),(12,.int .i64 ((j+1+1:Nat):Int))] [] sh):=by
    conv=>lhs;rw[Y_loop (L:=L66p_0) rfl]
    simp only[go_sem,h4,h0,ho,hr,hw,a1,a2,ha,q,ne_eq,not_true_eq_false,decide_false,demV_md,hj0,hj1,hj2,hj3,r1,r2,ge_str,hlt,Bool.not_true,demV_sl]
   rw[step];exact ih
theorem k66p (sh:LL) (hs:refsOk false sh.length sh=true) (o:Nat) (m:List En) (ho:sh[o]?=some (cls m)) (hl:m.length<=2000) (hB:∀ e∈m,BE e):Gp 66 [.ss o 0 m.length 8] sh=some (.tup [.sl .no 1 (strs (if okM m=true then m.map joinE else [])),.bool (okM m)],sh):=by
 refine contract F66p rfl rfl rfl ?_;by_cases hc:1024 < m.length
 ·have hc':(1024:Int) < (m.length:Int):=by omega
  have:okM m=false:=by unfold okM;rw[decide_eq_false (by omega)];rfl
  rw[this];simp only[F66p,go_sem,hs,take_length,hc',Bool.false_eq_true]
  try rfl
 have hc':¬ (1024:Int) < (m.length:Int):=by omega
 have e1:okM m=ascF none m:=by unfold okM;rw[decide_eq_true (by omega),Bool.true_and]
 rw[e1];obtain⟨x1,x2⟩:=l66p sh o m ho hl hB m.length 0 false (by omega);have ec:((0:Nat):Int)=0:=rfl;have e2:md false=.full:=rfl;have e3:strs (([]:List En).map joinE)=[]:=rfl;have e4:prv m 0=none:=rfl;rw[drop_zero,take_zero,ec,e2,e3,e4] at x1 x2;cases hq:ascF none m with
 | true =>
  obtain⟨b',y⟩:=x1 hq;simp only[F66p,go_sem,hs,take_length,hc',y]
 | false =>
  obtain⟨l',M,y1,y2,y3⟩:=x2 hq;simp only[F66p,go_sem,hs,take_length,hc',y1,y2,y3,Bool.false_eq_true];rfl
theorem rPS (S:LL) (c:List AV):(S++[c])[S.length]?=some c:=by rw[getElem?_append_right (Nat.le_refl _),Nat.sub_self];rfl
theorem rPSs (S:LL) (c c':List AV):(S++[c]).set S.length c'=S++[c']:=by
 rw[set_append_right _ _ (Nat.le_refl _),Nat.sub_self];rfl
theorem l68p (sh:LL) (h1:1<=sh.length) (o:Nat) (m:List En) (ho:sh[o]?=some (cls m)) (hl:m.length<=2000) (hB:∀ e∈m,BE e):∀ (k i:Nat) (S:LL),i+k=m.length->FT S->S.take sh.length=sh ->
  ∃ S',FT S'/\S'.take sh.length=sh/\sh.length<=S'.length/\execX Gp L68p_0 (ST [(3,.ss S.length 0 i 8),(10,.ss o 0 m.length 8),(11,.int .i64 m.length),(12,.int .i64 i)] [] (S++[cls (m.take i)]))=some (.ex 0,ST [(3,.ss S'.length 0 m.length 8),(10,.ss o 0 m.length 8),(11,.int .i64 m.length),(12,.int .i64 m.length),(13,.bool false)] [] (S'++[cls m]))
 | 0,i,S,h,hF,hT=>by
  have:i=m.length:=by omega
  subst this;have hSl:sh.length<=S.length:=by have:=congrArg List.length hT;rw[length_take] at this;omega
  refine⟨S,hF,hT,hSl,?_⟩;rw[take_length];rw[Y_loop (L:=L68p_0) rfl];simp only[go_sem,Int.lt_irrefl]
 | k+1,i,S,h,hF,hT=>by
  have hSl:sh.length<=S.length:=by have:=congrArg List.length hT;rw[length_take] at this;omega
  have hi:i < m.length:=by omega
  have h4:(i:Int) < (m.length:Int):=by omega
  have h0:(0:Int)<=(i:Int):=by omega
  have hw:IntKind.i64.wrap ((i:Int)+1)=((i+1:Nat):Int):=by rw[w64 (by omega) (by omega)];rfl
  have hg:m[i]?=some m[i]:=getElem?_eq_getElem hi;have ht:m.take (i+1)=m.take i++[m[i]]:=by rw[take_add_one,hg];rfl
  have hBe:=hB _ (getElem_mem hi);generalize m[i]=e at hg ht hBe;have hr:=cls_at m i e hg;have a1:=upp (k69 e hBe) rfl;have hlo:o < sh.length:=(List.getElem?_eq_some_iff.1 ho).1;have hoS:(S++[cls (m.take i)])[o]?=some (cls m):=by
   rw[getElem?_append_left (by omega)];rw[<- hT,getElem?_take_of_lt hlo] at ho;exact ho
  have htl:(m.take i).length=i:=by simp;omega
  have ha:appSA 8 128 (S++[cls (m.take i)]) (some [rowE e]) (.ss S.length 0 i 8)=some (.ss (S++[dead]).length 0 (i+1) 8,(S++[dead])++[cls (m.take (i+1))]):=by
   have ha:appOK 128 (i+1)=true:=appOK_le (by decide) (by omega);rw[appSA_ss S.length i 128 8 (by decide),length_singleton,if_pos ha,rPS];simp only[Option.bind_some];rw[if_pos ⟨cls_blk _,by rw[cls_len,htl],nown_all (cls_flat _)⟩,rPSs,ht,cls_app,length_append,length_append];simp [cls,ens]
  simp only[rowE] at a1 hr ha
  obtain⟨S',f1,f2,f3,ih⟩:=l68p sh h1 o m ho hl hB k (i+1) (S++[dead]) (by omega) (fun x c hx hc=>by
   by_cases q:x < S.length
   ·rw[getElem?_append_left q] at hc;exact hF x c hx hc
   ·rw[getElem?_append_right (by omega)] at hc
    exact .inr (mem_singleton.1 (mem_of_getElem? hc))) (by rw[take_append_of_le_length hSl];exact hT)
  refine⟨S',f1,f2,f3,?_⟩;rw[Y_loop (L:=L68p_0) rfl];simp only[go_sem,h4,h0,hoS,hr,hw,a1,mks8,ha];exact ih
attribute [-go_sem] mklA_int
theorem k68p (sh:LL) (h1:1<=sh.length) (hF:FT sh) (o:Nat) (m:List En) (ho:sh[o]?=some (cls m)) (hl:m.length<=2000) (hB:∀ e∈m,BE e):∃ S',FT S'/\S'.take sh.length=sh/\sh.length<=S'.length/\Gp 68 [.ss o 0 m.length 8] sh=some (.ss S'.length 0 m.length 8,S'++[cls m]):=by
 obtain⟨S',f1,f2,f3,x⟩:=l68p sh h1 o m ho hl hB m.length 0 sh (by omega) hF take_length;have ec:((0:Nat):Int)=0:=rfl;have e1:cls (m.take 0)=[]:=rfl;rw[ec,e1] at x;refine⟨S',f1,f2,f3,?_⟩;have hw:IntKind.i64.wrap ((m.length:Int)+1)=((m.length+1:Nat):Int):=by rw[w64 (by omega) (by omega)];rfl
 have hk:mklA 8 [AV.sl Own.full 3 [],AV.sl Own.full 3 [],AV.str [],AV.str [],AV.str [],AV.str [],AV.int IntKind.i64 0,AV.int IntKind.i64 0] 128 sh (.int .i64 0) (.int .i64 ((m.length+1:Nat):Int))=some (.ss sh.length 0 0 8,sh++[[]]):=by
  rw[mklA_int,if_pos ⟨by decide,by omega,by omega,by omega,by decide,rfl⟩];rfl
 refine contract F68p rfl rfl rfl ?_;simp only[F68p,go_sem,hw,hk,x]
end Go.Av
namespace Go.Av
open Go.Nt
theorem rfT {sh:LL} (h:refsOk false sh.length sh=true) (T:LL) (hT:T.take sh.length=sh):refsOk false sh.length T=true:=by
 unfold refsOk at h ⊢;rw[take_length] at h;rw[hT];exact h
theorem sdT:∀ (sh T:LL),T.take sh.length=sh->sameDead sh T=true
 | [],T,h=>by cases T<;>rfl
 | c :: sh,[],h=>by simp at h
 | c :: sh,d :: T,h=>by
  simp only[length_cons,take_succ_cons,List.cons.injEq] at h;obtain⟨rfl,h2⟩:=h
  have:=sdT sh T h2
  simp only[sameDead,this,Bool.and_true]
  cases isDead d<;>rfl
theorem k70p (S:LL) (m:List En) (hl:m.length<=2000) (i:Nat) (e:En) (hi:i<=m.length):Gp 70 [.ss S.length 0 m.length 8,.int .i64 i,.sl .full 8 [rowE e]] (S++[cls m])=some (.ss (S.length+1) 0 (m.length+1) 8,S++[dead]++[cls (m.take i++[e]++m.drop i)]):=by
 have hlen:(S++[cls m]).length=S.length+1:=by simp
 by_cases q:i < m.length
 ·refine Gx_base ?_
  show ((S++[cls m])[S.length]?).bind (fun cells=>if 8=8/\8=8/\insOK 8 128 m.length (i:Int) cells [rowE e]=true then some (AV.ss (S++[cls m]).length 0 (m.length+([]:LL).length+1) 8,(S++[cls m]).set S.length dead++[insX 8 (i:Int).toNat cells [rowE e]]) else none)=_;rw[rPS];simp only[Option.bind_some];have hok:insOK 8 128 m.length (i:Int) (cls m) [rowE e]=true:=by
   unfold insOK;simp only[Bool.and_eq_true,decide_eq_true_eq];refine⟨⟨⟨⟨⟨by omega,by omega,(cls_len m).symm⟩,cls_flat m⟩,rfl⟩,rfl⟩,?_⟩;simp only[length_singleton]
   constructor<;>omega
  rw[if_pos ⟨trivial,trivial,hok⟩,hlen,rPSs,Int.toNat_natCast,insX_cls m i e (by omega)];rfl
 ·have hin:i=m.length:=by omega
  subst hin;have hok:insOK 8 128 m.length (m.length:Int) (cls m) [rowE e]=false:=by
   have hf:¬ ((0:Int)<=(m.length:Int)/\(m.length:Int) < (m.length:Int)/\m.length*8=(cls m).length):=fun z=>by omega
   unfold insOK;rw[decide_eq_false hf];rfl
  have hB:Bp 70 [.ss S.length 0 m.length 8,.int .i64 m.length,.sl .full 8 [rowE e]] (S++[cls m])=none:=by
   show ((S++[cls m])[S.length]?).bind (fun cells=>if 8=8/\8=8/\insOK 8 128 m.length (m.length:Int) cells [rowE e]=true then _ else none)=none;rw[rPS];simp only[Option.bind_some,hok];rfl
  have ha:appSA 8 128 (S++[cls m]) (some [rowE e]) (.ss S.length 0 m.length 8)=some (.ss (S.length+1) 0 (m.length+1) 8,(S++[dead])++[cls (m++[e])]):=by
   have ha:appOK 128 (m.length+1)=true:=appOK_le (by decide) (by omega);rw[appSA_ss S.length m.length 128 8 (by decide),length_singleton,if_pos ha,rPS];simp only[Option.bind_some];rw[if_pos ⟨cls_blk _,(cls_len m).symm,nown_all (cls_flat _)⟩,rPSs,hlen,cls_app];simp [cls,ens]
  simp only[rowE] at ha;have h0:(0:Int)<=(m.length:Int):=by omega
  have e1:m.take m.length++[e]++m.drop m.length=m++[e]:=by simp
  rw[e1];refine contract F70p hB rfl rfl ?_;by_cases hz:m.length=0
  ·have hz':(m.length:Int)=0:=by omega
   simp only[F70p,rowE,go_sem,h0,ha,Int.le_refl,true_or,hz']
  ·have hz':¬ (m.length:Int)=0:=by omega
   simp only[F70p,rowE,go_sem,h0,ha,Int.le_refl,hz',Int.lt_irrefl,or_self]
theorem k73p (S:LL) (m:List En) (hl:m.length<=2000) (i:Nat) (hi:i < m.length):Gp 73 [.ss S.length 0 m.length 8,.int .i64 i,.int .i64 ((i+1:Nat):Int)] (S++[cls m])=some (.ss S.length 0 (m.length - 1) 8,S++[cls (m.take i++m.drop (i+1))++zf8]):=by
 have hW:(m.take i++m.drop (i+1)).length=m.length - 1:=by simp;omega
 have a0:(0:Int)<=(i:Int):=by omega
 have a1:(i:Int)<=((i+1:Nat):Int):=by omega
 have a2:((i+1:Nat):Int)<=(m.length:Int):=by omega
 have a3:((i:Int)=((i+1:Nat):Int))=False:=eq_false (by omega);have a4:(i:Int)<=(m.length:Int):=by omega
 have a5:(0:Int)<=((i+1:Nat):Int):=by omega
 have a6:(((i+1:Nat):Int)=0)=False:=eq_false (by omega);have hsum:i+(m.length - (i+1))=m.length - 1:=by omega
 obtain⟨c',hc'⟩:∃ c',c'=cls (m.take i++m.drop (i+1))++cls (m.drop (m.length - 1)):=⟨_,rfl⟩
 have hcl:c'.length=m.length*8:=by rw[hc',length_append,cls_len,hW,drop_len];omega
 have hput:putC (i*8) (ens (m.drop (i+1))).flatten (cls m)=some c':=by
  have hp:=putC_app (cls (m.take i)) (cls (m.drop i)) (cls (m.drop (i+1))) (by rw[drop_len,drop_len];omega);have e3:(cls (m.drop i)).drop (cls (m.drop (i+1))).length=cls (m.drop (m.length - 1)):=by
   rw[drop_len,cls_drop _ _ (by simp;omega),drop_drop]
   congr 2
  rw[take_len (by omega),<- cls_split,e3] at hp;rw[hc',cls_app];exact hp
 have hblk:blkB c'=true:=by
  rw[hc',<- cls_app];exact cls_blk _
 have happ:appCA 8 (S++[cls m]) (some (ens (m.drop (i+1)))) (.ss S.length 0 i 8)=some (.ss S.length 0 (m.length - 1) 8,S++[c']):=by
  have:=appCA_some (sh:=S++[cls m]) (o:=S.length) (n:=i) (l2:=ens (m.drop (i+1))) (z:=8) (by decide) (cells:=cls m) (rPS _ _) (cls_blk m) (by rw[ens_len,length_drop,cls_len];omega) hput
  rw[this,ens_len,length_drop,hsum,rPSs]
 have hslx:=slxA_both (sh:=S++[c']) (z:=8) (by decide) (o:=S.length) (off:=0) (n:=m.length - 1) (k:=.i64) (k':=.i64) (i:=m.length - 1) (j:=m.length) (cells:=c') (rPS _ _) hblk (by rw[hcl];omega) (by omega);rw[Nat.zero_add,show m.length - (m.length - 1)=1 by omega] at hslx;have hclr:putC ((m.length - 1)*8) (zeroRow zf8 1) c'=some (cls (m.take i++m.drop (i+1))++zf8):=by
  have hp:=putC_app (cls (m.take i++m.drop (i+1))) (cls (m.drop (m.length - 1))) zf8 (by rw[drop_len];simp;omega);have e4:(cls (m.drop (m.length - 1))).drop zf8.length=[]:=drop_of_length_le (by rw[drop_len];simp;omega);rw[cls_len,hW,e4,append_nil,<- hc'] at hp;exact hp
 have hrow:rowsC ((i+1)*8) (m.length - (i+1)) 8 (cls m)=some (ens (m.drop (i+1))):=by
  have:=rowsC_mid (m.take (i+1)) (m.drop (i+1)) []
  rw[append_nil,take_append_drop,length_take,length_drop,Nat.min_eq_left (by omega)] at this;exact this
 refine contract F73p rfl rfl rfl ?_;by_cases hlast:((i+1:Nat):Int) < (m.length:Int)
 ·simp only[F73p,go_sem,a0,a1,a2,a3,a4,a5,a6,hlast,or_true,or_false,Int.le_refl,Int.toNat_natCast,Nat.zero_add,rPS,rPSs,hrow,happ,hslx,clrX_ss,hblk,hclr]
 ·have hdn:ens (m.drop (i+1))=[]:=by rw[drop_eq_nil_of_le (by omega)];rfl
  rw[hdn] at happ;simp only[F73p,go_sem,a0,a1,a2,a3,a4,a5,a6,hlast,or_false,Int.le_refl,Int.toNat_natCast,Nat.zero_add,rPS,rPSs,happ,hslx,clrX_ss,hblk,hclr]
theorem k27p (sh:LL) (hs1:1<=sh.length) (hF:FT sh) (hrs:refsOk false sh.length sh=true) (o:Nat) (m:List En) (ho:sh[o]?=some (cls m)) (hl:m.length<=2000) (hB:∀ e∈m,BE e) (e:En) (he:BE e):Gp 27 [.ss o 0 m.length 8,.agg (rowE e)] sh=some (.tup [.sl .no 8 (ens (putV m e)),.int .i64 (putE m e)],sh):=by
 have a1:=k66p sh hrs o m ho hl hB;have hx:refsOk false sh.length sh=true/\sh.take sh.length=sh:=⟨hrs,take_length⟩
 refine contract F27p rfl rfl rfl ?_;cases hq:okM m with
 | false =>
  rw[hq] at a1;simp only[Bool.false_eq_true,if_false] at a1;rw[(putE_1 hq).1,(putE_1 hq).2];simp only[F27p,rowE,go_sem,a1,hx.1,hx.2,Bool.not_false];rfl
 | true =>
  rw[hq] at a1;simp only[if_true] at a1;obtain⟨h1,h2⟩:=(okM_iff m).1 hq;rw[mem_map h2] at a1;have a2:=upp (k23 e he) rfl;simp only[rowE] at a2;by_cases hv:vE e=0
  case neg =>
   rw[(putE_2 hq hv).1,(putE_2 hq hv).2];simp only[F27p,rowE,go_sem,a1,hx.1,hx.2,a2,Bool.not_true,ne_eq,hv,not_false_eq_true,decide_true];rfl
  have a3:=upp (k64 e he) rfl;rw[<- key_join hv] at a3;simp only[rowE] at a3;have a4:=upp (k67 (m.map keyE) (keyE e) (by simp;omega) (plc m (keyE e)) (lb_key h2 (keyE e))) rfl;obtain⟨S,f1,f2,f3,a5⟩:=k68p sh hs1 hF o m ho hl hB;have hT:∀ X,(S++[X]).take sh.length=sh:=fun X=>by rw[take_append_of_le_length f3];exact f2
  have hT2:∀ X,(S++[dead]++[X]).take sh.length=sh:=fun X=>by rw[take_append_of_le_length (by simp;omega),take_append_of_le_length f3];exact f2
  have hR:=rfT hrs;have f4:sh.length<=S.length+1:=by omega
  have rP2:=rPS (S++[dead]);rw[length_append,length_singleton] at rP2;have a6:=upp (k69 e he) rfl;simp only[rowE] at a6;have h0:(0:Int)<=((plc m (keyE e):Nat):Int):=by omega
  have hle:=plc_le h2 (keyE e);cases hg:getM m (keyE e) with
  | some x =>
   have q:=plc_lt h2 hg;have q':((plc m (keyE e):Nat):Int) < (m.length:Int):=by omega
   have ex:=at_some h2 hg;have e2:(m.map keyE)[plc m (keyE e)]?=some (keyE e):=by rw[getElem?_map,ex];simp [(getM_some hg).2]
   rw[e2,decide_eq_true rfl] at a4;have hp:=putC_set m (plc m (keyE e)) e q;have hr:=rowsC_n (set_len (e:=e) q);rw[pt_some h2 hg] at hp hr;rw[putC_L _ _ _ (by simp [rowE])] at hp;simp only[rowE] at hp;rw[(putE_0 hq hv (by rw[hg];simp)).1,(putE_0 hq hv (by rw[hg];simp)).2];simp only[F27p,rowE,go_sem,a1,a2,Bool.not_true,ne_eq,hv,not_true_eq_false,decide_false,a3,a4,a5,a6,ens_len,q',h0,Int.toNat_natCast,Nat.zero_add,rPS,rPSs,cls_blk,hp,hr,f3,f4,hT,hT2,hR _ (hT _),hR _ (hT2 _),sdT _ _ (hT _),sdT _ _ (hT2 _),if_true]
  | none =>
   have e2:¬ (m.map keyE)[plc m (keyE e)]?=some (keyE e):=by
    intro z;rw[getElem?_map] at z;obtain⟨y,y1,y2⟩:=Option.map_eq_some_iff.1 z;exact at_none h2 hg _ y1 y2
   rw[decide_eq_false e2] at a4;by_cases hc:1024<=m.length
   ·have hc':(1024:Int)<=(m.length:Int):=by omega
    rw[(putE_3 hq hv hg hc).1,(putE_3 hq hv hg hc).2];simp only[F27p,rowE,go_sem,a1,hx.1,hx.2,a2,Bool.not_true,Bool.not_false,ne_eq,hv,not_true_eq_false,decide_false,a3,a4,ens_len,hc'];rfl
   ·have hc':¬ (1024:Int)<=(m.length:Int):=by omega
    have a7:=k70p S m hl (plc m (keyE e)) e hle;have hr:=rowsC_n (ins_len (e:=e) hle);rw[pt_none h2 hg] at a7 hr;simp only[rowE] at a7;rw[(putE_0 hq hv (by simp;omega)).1,(putE_0 hq hv (by simp;omega)).2];simp only[F27p,rowE,go_sem,a1,a2,Bool.not_true,Bool.not_false,ne_eq,hv,not_true_eq_false,decide_false,a3,a4,a5,a6,mks8,ens_len,hc',a7,rP2,hr,cls_blk,f3,f4,hT,hT2,hR _ (hT _),hR _ (hT2 _),sdT _ _ (hT _),sdT _ _ (hT2 _),if_true]
theorem k33p (sh:LL) (hs1:1<=sh.length) (hF:FT sh) (hrs:refsOk false sh.length sh=true) (o:Nat) (m:List En) (ho:sh[o]?=some (cls m)) (hl:m.length<=2000) (hB:∀ e∈m,BE e) (k:Bs):Gp 33 [.ss o 0 m.length 8,.str k] sh=some (.tup [.sl .no 8 (ens (if hasM m k=true then delM m k else [])),.bool (hasM m k)],sh):=by
 have a1:=upp (k35 m hl hB k) rfl;have hrw:=rowsC_n (m:=m) rfl;have hx:refsOk false sh.length sh=true/\sh.take sh.length=sh:=⟨hrs,take_length⟩
 unfold fndI at a1;unfold hasM;refine contract F33p rfl rfl rfl ?_;cases hq:okM m with
 | false =>
  rw[hq] at a1;simp only[Bool.false_eq_true,if_false] at a1;simp only[F33p,go_sem,ho,hrw,hx.1,hx.2,a1,Bool.false_and,Bool.false_eq_true,Int.reduceLT,decide_true];rfl
 | true =>
  rw[hq] at a1;simp only[if_true] at a1;obtain⟨h1,h2⟩:=(okM_iff m).1 hq;cases hg:getM m k with
  | none =>
   rw[hg] at a1;simp only[] at a1;simp only[F33p,go_sem,ho,hrw,hx.1,hx.2,a1,Option.isSome_none,Bool.and_false,Bool.false_eq_true,Int.reduceLT,decide_true];rfl
  | some x =>
   rw[hg] at a1;simp only[] at a1;have q:=plc_lt h2 hg;have hs:=split_some h2.2 hg;have e1:m.take (plc m k)++m.drop (plc m k+1)=delM m k:=by
    unfold delM plc;generalize bel k m=B at *;generalize abv k m=A at *;subst hs;simp
   obtain⟨S,f1,f2,f3,a2⟩:=k68p sh hs1 hF o m ho hl hB;have hT:∀ X,(S++[X]).take sh.length=sh:=fun X=>by rw[take_append_of_le_length f3];exact f2
   have hR:=rfT hrs;have a3:=k73p S m hl (plc m k) q;rw[e1] at a3;have hlen:(delM m k).length=m.length - 1:=by
    rw[<- e1];simp;omega
   have hr:=rowsC_pre hlen zf8;have hb:=cls_blk8 (delM m k) zf8;have n0:¬ ((plc m k:Nat):Int) < 0:=by omega
   have hw:IntKind.i64.wrap (((plc m k:Nat):Int)+1)=((plc m k+1:Nat):Int):=by rw[w64 (by omega) (by omega)];rfl
   simp only[F33p,go_sem,ho,hrw,hx.1,hx.2,a1,n0,hw,a2,a3,Option.isSome_some,Bool.and_true,rPS,hr,hb,f3,hT,hR _ (hT _),sdT _ _ (hT _),if_true]
end Go.Av
namespace Go.Av
open Go.Nt
def delV (m:List En) (k:Bs):List En:=if hasM m k=true then delM m k else []
theorem del_eq' {m:List En} (h:Mem m) {k:Bs} {x:En} (hg:getM m k=some x):m.take (plc m k)++m.drop (plc m k+1)=delM m k:=by
 have hs:=split_some h.2 hg;unfold delM plc;generalize bel k m=B at *;generalize abv k m=A at *;subst hs;simp
theorem k34p (sh:LL) (hs1:1<=sh.length) (hF:FT sh) (hrs:refsOk false sh.length sh=true) (o:Nat) (m:List En) (ho:sh[o]?=some (cls m)) (hl:m.length<=2000) (hB:∀ e∈m,BE e) (k:Bs):Gp 34 [.ss o 0 m.length 8,.str k] sh=some (.tup [.sl .no 8 (ens (delV m k)),.bool (hasM m k)],sh):=by
 have a:=upp (k36 m hl hB k) rfl;have hrw:=rowsC_n (m:=m) rfl;have hx:refsOk false sh.length sh=true/\sh.take sh.length=sh:=⟨hrs,take_length⟩
 have hR:=rfT hrs;unfold fndI at a;unfold delV hasM;refine contract F34p rfl rfl rfl ?_;cases hq:okM m with
 | false =>
  rw[hq] at a;simp only[Bool.false_eq_true,if_false] at a;simp only[F34p,go_sem,ho,hrw,hx.1,hx.2,a,Bool.false_and,Bool.false_eq_true,if_false];rfl
 | true =>
  rw[hq] at a;simp only[if_true] at a;have h2:=((okM_iff m).1 hq).2;cases hg:getM m k with
  | none =>
   rw[hg] at a;simp only[] at a;simp only[F34p,go_sem,ho,hrw,hx.1,hx.2,a,Option.isSome_none,Bool.and_false,Bool.false_eq_true,if_false];rfl
  | some x =>
   rw[hg] at a;simp only[] at a;have hlt:=plc_lt h2 hg;have hd:=del_eq' h2 hg;generalize plc m k=i at a hlt hd;have h0:(0:Int)<=(i:Int):=by omega
   have hn:¬ (i:Int) < 0:=by omega
   have g1:(i:Int)<=(m.length:Int):=by omega
   have h3:((i+1:Nat):Int)<=(m.length:Int):=by omega
   have h4:(0:Int)<=((i+1:Nat):Int):=by omega
   have hw:IntKind.i64.wrap ((i:Int)+1)=((i+1:Nat):Int):=by rw[w64 (by omega) (by omega)];rfl
   have c1:=rowsC_pre' m i (by omega);have c2:=rowsC_suf m (i+1) (by omega);have hz:(((i+1:Nat):Int)=0)=False:=eq_false (by omega);rw[<- hd];by_cases hi0:i=0
   ·subst hi0
    have p1:=app00 sh;have ec:((0:Nat):Int)=0:=rfl;have e1:((0+1:Nat):Int)=1:=rfl;have g6:(0:Int)<=(m.length:Int):=by omega
    have w1:IntKind.i64.wrap 1=1:=w64 (by decide) (by decide);simp only[take_zero,nil_append] at c1 ⊢;rw[ens_nil] at c1;rw[ec] at a;rw[Nat.zero_add] at c2 ⊢;by_cases hc:(1:Int) < (m.length:Int)
    ·obtain⟨o2,S2,e2,p2,q2,f2,l2,t2,r2⟩:=appN sh hs1 hF (m.drop 1) (by simp;omega) (by simp;omega)
     have hr2:=rowsC_n (m:=m.drop 1) rfl;have hle:sh.length<=o2:=by omega
     have g5:(1:Int)<=(m.length:Int):=by omega
     simp only[F34p,go_sem,ho,hrw,a,Option.isSome_some,Bool.and_true,if_true,Int.lt_irrefl,Int.le_refl,g6,w1,hc,g5,Int.toNat_natCast,Int.toNat_one,Nat.one_mul,c1,c2,p1,p2,q2,hr2,hle,hR _ t2,sdT _ _ t2,t2,ec]
    ·have hdn:m.drop 1=[]:=drop_eq_nil_of_le (by omega)
     rw[hdn];have g5:(1:Int)<=(m.length:Int):=by omega
     simp only[F34p,go_sem,ho,hrw,a,Option.isSome_some,Bool.and_true,if_true,Int.lt_irrefl,Int.le_refl,g6,w1,hc,g5,Int.toNat_natCast,Int.toNat_one,Nat.one_mul,c1,p1,hx.1,hx.2,ens_nil,ec]
   ·have hti:(m.take i).length=i:=by rw[length_take];omega
    obtain⟨o1,S1,e1,p1,q1,f1,l1,t1,r1⟩:=appN sh hs1 hF (m.take i) (by omega) (by omega);obtain⟨o2,S2,e2,p2,q2,f2,l2,t2,r2⟩:=appG S1 l1 f1 o1 (m.take i) (m.drop (i+1)) q1 (by simp;omega);have ho1':=r1 o _ ho;have tt:S2.take sh.length=sh:=by rw[t2 sh.length (by omega),t1]
    have hS1:sh.length < S1.length:=by rw[<- e1];exact (List.getElem?_eq_some_iff.1 q1).1
    have hle:sh.length<=o2:=by omega
    have hr2:=rowsC_n (m:=m.take i++m.drop (i+1)) rfl;rw[hti] at p1 p2;by_cases hc:((i+1:Nat):Int) < (m.length:Int)
    ·simp only[F34p,go_sem,ho,ho1',hrw,a,hn,Option.isSome_some,Bool.and_true,if_true,h0,g1,h3,h4,hw,hz,hc,or_true,Int.toNat_natCast,Nat.zero_add,c1,c2,p1,p2,q2,hr2,hle,hR _ tt,sdT _ _ tt,tt]
    ·have hdn:m.drop (i+1)=[]:=drop_eq_nil_of_le (by omega)
     rw[hdn,ens_nil] at p2;rw[hdn] at q2 hr2 ⊢;simp only[append_nil] at p2 q2 hr2 ⊢;simp only[F34p,go_sem,ho,ho1',hrw,a,hn,Option.isSome_some,Bool.and_true,if_true,h0,g1,h3,h4,hw,hz,hc,or_false,Int.toNat_natCast,Nat.zero_add,c1,p1,p2,q2,hr2,hle,hR _ tt,sdT _ _ tt,tt]
theorem nilB_one {G:Calls'} {f:FuncId} {z:Nat} {xs:List AV} {r:AV} (h:G f (.sl .no z [] :: xs) []=some (r,[])) (h3:xs.all (argLt 0)=true) (sh:LL):nilB G f (.sl .full z [] :: xs) sh=some (r,sh):=by
 show (G f (.sl .no z [] :: xs) []).bind (fun p=>if p.2=[]/\xs.all (argLt 0)=true then some (p.1,sh) else none)=_;rw[h];simp only[Option.bind_some,h3,and_self,if_true]
theorem noB:∀ e∈([]:List En),BE e:=fun e h=>by cases h
theorem k27z (sh:LL) (e:En) (he:BE e):Gp 27 [.sl .full 8 [],.agg (rowE e)] sh=some (.tup [.sl .no 8 (ens (putV [] e)),.int .i64 (putE [] e)],sh):=Gx_base (nilB_one (k27 [] (by decide) noB e he) rfl sh)
theorem k33z (sh:LL) (k:Bs):Gp 33 [.sl .full 8 [],.str k] sh=some (.tup [.sl .no 8 (ens (if hasM [] k=true then delM [] k else [])),.bool (hasM [] k)],sh):=Gx_base (nilB_one (k33 [] (by decide) noB k) rfl sh)
theorem hasM_nil (k:Bs):hasM [] k=false:=by unfold hasM;simp [getM]
theorem k34n (k:Bs):G0 34 [.sl .no 8 [],.str k] []=some (.tup [.sl .no 8 [],.bool false],[]):=by
 have a:=k36 [] (by decide) noB k;have e:fndI [] k = -1:=by unfold fndI;simp [getM]
 rw[e,ens_nil] at a;refine contract F34 rfl rfl rfl ?_;simp only[F34,go_sem,a]
theorem k34z (sh:LL) (k:Bs):Gp 34 [.sl .full 8 [],.str k] sh=some (.tup [.sl .no 8 [],.bool false],sh):=Gx_base (nilB_one (k34n k) rfl sh)
end Go.Av
namespace Go.Av
open Go.Nt
theorem BE.putV {m:List En} (hB:∀ e∈m,BE e) {e:En} (he:BE e) (hl:m.length<=900):(∀ z∈putV m e,BE z)/\(Go.Av.putV m e).length<=2000:=by
 unfold Go.Av.putV;split
 ·refine⟨fun z hz=>?_,?_⟩
  ·rcases mem_put.1 hz with q | q
   ·rw[q];exact he
   ·exact hB z q.1
  ·unfold putM bel abv
   have h1:=length_filter_le (fun z=>ltB (keyE z) (keyE e)) m;have h2:=length_filter_le (fun z=>ltB (keyE e) (keyE z)) m;rw[length_append,length_cons];omega
 ·exact⟨fun z hz=>(by cases hz),by simp⟩
theorem BE.delV {m:List En} (hB:∀ e∈m,BE e) (k:Bs) (hl:m.length<=900):(∀ z∈delV m k,BE z)/\(Go.Av.delV m k).length<=2000:=by
 unfold Go.Av.delV;split
 ·refine⟨fun z hz=>hB z (mem_del.1 hz).1,?_⟩
  unfold delM bel abv;have h1:=length_filter_le (fun z=>ltB (keyE z) k) m;have h2:=length_filter_le (fun z=>ltB k (keyE z)) m;rw[length_append];omega
 ·exact⟨fun z hz=>(by cases hz),by simp⟩
theorem bne_b (t:Bool):(t != t)=false:=by simp
theorem strs_len' (l:List Bs):(strs l).length=l.length:=by simp [strs]
theorem strs_one' (s:Bs):[[AV.str s]]=strs [s]:=rfl
theorem strs_app' (x y:List Bs):strs x++strs y=strs (x++y):=by simp [strs]
def NFS (sh:LL):Prop:=∃ l p R,sh=num l p :: R/\FT sh
theorem NFS.ft {sh:LL} (h:NFS sh):FT sh/\1<=sh.length:=by
 obtain⟨l,p,R,rfl,h⟩:=h;exact⟨h,by simp⟩
theorem flat_lt' {n:Nat} {l:List AV} (h:l.all flatB=true):l.all (refLt n)=true:=by
 rw[all_eq_true] at h ⊢;intro x hx
 have:=h x hx
 cases x<;>simp_all [flatB,refLt]
theorem NFS.rf {sh:LL} (h:NFS sh):refsOk false sh.length sh=true:=by
 obtain⟨l,p,R,rfl,h⟩:=h;unfold refsOk;rw[take_length,Bool.false_or,all_eq_true];intro c hc;obtain⟨i,hi⟩:=mem_iff_getElem?.1 hc;rcases Nat.eq_zero_or_pos i with z | z
 ·subst z
  simp only[getElem?_cons_zero,Option.some.injEq] at hi;subst hi;rfl
 ·rcases h i c z hi with q | q
  ·exact flat_lt' q
  ·subst q;rfl
theorem NFS.ext {sh T:LL} (h:NFS sh) (hF:FT T) (hT:T.take sh.length=sh):NFS T/\∀ (o:Nat) c,sh[o]?=some c->T[o]?=some c:=by
 refine⟨?_,fun o c hc=>?_⟩
 ·obtain⟨l,p,R,rfl,_⟩:=h
  cases T with
  | nil=>simp at hT
  | cons c T =>
   simp only[length_cons,take_succ_cons,List.cons.injEq] at hT;obtain⟨rfl,_⟩:=hT;exact⟨l,p,T,rfl,hF⟩
 ·have hlt:=(List.getElem?_eq_some_iff.1 hc).1
  rw[<- hT,getElem?_take_of_lt hlt] at hc;exact hc
theorem l6a (c9 c14:List AV) (sh:LL) (hN:NFS sh) (o:Nat) (a:List En) (ho:sh[o]?=some (cls a)) (ho1:1<=o) (hl:a.length<=100) (hB:∀ e∈a,BE e) (b:Bool):∀ (k i:Nat) (md:Own) (ks:List Bs),md≠.no->i+k=a.length->ks.length<=3+i ->
  ∃ md',md'≠.no/\execX Gp L6p_0 (ST [(9,.loc 9 0),(13,.ss o 0 a.length 8),(14,.loc 14 0),(15,.sl md 1 (strs ks)),(46,.bool false),(55,.bool b),(74,.int .i64 a.length),(75,.int .i64 i)] [(9,some c9),(14,some c14)] sh)=some (.ex 0,ST [(9,.loc 9 0),(13,.ss o 0 a.length 8),(14,.loc 14 0),(15,.sl md' 1 (strs (ks++(a.drop i).map keyE))),(46,.bool false),(55,.bool b),(74,.int .i64 a.length),(75,.int .i64 a.length),(76,.bool false)] [(9,some c9),(14,some c14)] sh)
 | 0,i,md,ks,hm,h1,h2=>by
  have:i=a.length:=by omega
  subst this;refine⟨md,hm,?_⟩;rw[Y_loop (L:=L6p_0) rfl];simp only[go_sem,Int.lt_irrefl,drop_length,map_nil,append_nil]
 | k+1,i,md,ks,hm,h1,h2=>by
  have h3:i < a.length:=by omega
  have h4:(i:Int) < (a.length:Int):=by omega
  have h0:(0:Int)<=(i:Int):=by omega
  have hw:IntKind.i64.wrap ((i:Int)+1)=((i+1:Nat):Int):=by rw[w64 (by omega) (by omega)];rfl
  have hr:=cls_at a i _ (getElem?_eq_getElem h3);have hd:a.drop i=a[i] :: a.drop (i+1):=drop_eq_getElem_cons h3;have a5:=upp (k26 a[i] (hB _ (getElem_mem h3))) rfl;obtain⟨md',hm',ih⟩:=l6a c9 c14 sh hN o a ho ho1 hl hB b k (i+1) .own (ks++[keyE a[i]]) (by decide) (by omega) (by simp;omega);refine⟨md',hm',?_⟩;rw[hd,map_cons];rw[append_assoc] at ih;have ha:appOK 16 (ks.length+1)=true:=appOK_le (by decide) (by omega);simp only[rowE] at a5 hr;rw[Y_loop (L:=L6p_0) rfl];simp only[go_sem,h4,h0,hw,ho,hr,a5,appA_gen md _ hm 1 16 (by decide),strs_len',ha,strs_one',strs_app'];exact ih
theorem l6bes (sh:LL) (hN:NFS sh) (o:Nat) (a:List En) (ho:sh[o]?=some (cls a)) (ho1:1<=o) (hl:a.length<=100) (hB:∀ e∈a,BE e) (b:Bool) (md:Own) (ks:List Bs) (e x:En) (he:BE e) (hx:BE x) :
  ∃ T,NFS T/\T.take sh.length=sh/\execX Gp L6p_1 (ST [(13,.ss o 0 a.length 8),(15,.sl md 1 (strs ks)),(46,.bool false),(55,.bool b),(74,.int .i64 a.length),(75,.int .i64 a.length),(76,.bool false),(89,.agg (rowE e++rowE x)),(90,.int .i64 0)] [] sh)=execX Gp L6p_1 (ST [(13,.ss o 0 a.length 8),(15,.sl md 1 (strs ks)),(46,.bool false),(55,.bool b),(74,.int .i64 a.length),(75,.int .i64 a.length),(76,.bool false),(89,.agg (rowE e++rowE x)),(90,.int .i64 1)] [] T):=by
  have N1:=hN;have p11:=k27p sh N1.ft.2 N1.ft.1 N1.rf o a ho (by omega) hB e he;obtain⟨v1,T1,p21,O1,F1,_,T1'⟩:=k30p sh N1.ft.2 N1.ft.1 _ a (.inr ⟨o,rfl,ho,ho1⟩) (by omega) hB e he;obtain⟨pB1,pl1⟩:=BE.putV hB he (m:=a) (by omega);have p31:=upp (k28 _ pl1 pB1) rfl;have rw1:=rowsC_n (m:=Go.Av.putV a e) rfl;have p41:=upp (k31 [e] (by simp) (fun z hz=>by rw[mem_singleton.1 hz];exact he)) rfl;have p51:=upp (k32 [e] (by simp) (fun z hz=>by rw[mem_singleton.1 hz];exact he)) rfl;have w1:IntKind.i64.wrap 1=1:=w64 (by decide) (by decide);refine⟨T1,(hN.ext F1 T1').1,T1',?_⟩;simp only[rowE] at p11 p21;simp only[rowE,cons_append,nil_append]
  conv=>lhs;rw[Y_loop (L:=L6p_1) rfl]
  rcases O1 with ⟨rfl,z1⟩ | ⟨o1,rfl,z1,_⟩
  ·rw[z1] at p11 p31
   rw[ens_nil] at p11 p31;simp only[go_sem,p11,p21,p31,mks8,ens_one,p41,p51,bne_b,w1,ne_eq,not_true_eq_false,decide_false,Bool.not_true]
  ·simp only[go_sem,p11,p21,z1,rw1,p31,mks8,ens_one,p41,p51,bne_b,w1,ne_eq,not_true_eq_false,decide_false,Bool.not_true]
theorem l6bxs (sh:LL) (hN:NFS sh) (o:Nat) (a:List En) (ho:sh[o]?=some (cls a)) (ho1:1<=o) (hl:a.length<=100) (hB:∀ e∈a,BE e) (b:Bool) (md:Own) (ks:List Bs) (e x:En) (he:BE e) (hx:BE x) :
  ∃ T,NFS T/\T.take sh.length=sh/\execX Gp L6p_1 (ST [(13,.ss o 0 a.length 8),(15,.sl md 1 (strs ks)),(46,.bool false),(55,.bool b),(74,.int .i64 a.length),(75,.int .i64 a.length),(76,.bool false),(89,.agg (rowE e++rowE x)),(90,.int .i64 1)] [] sh)=execX Gp L6p_1 (ST [(13,.ss o 0 a.length 8),(15,.sl md 1 (strs ks)),(46,.bool false),(55,.bool b),(74,.int .i64 a.length),(75,.int .i64 a.length),(76,.bool false),(89,.agg (rowE e++rowE x)),(90,.int .i64 2)] [] T):=by
  have N1:=hN;have p11:=k27p sh N1.ft.2 N1.ft.1 N1.rf o a ho (by omega) hB x hx;obtain⟨v1,T1,p21,O1,F1,_,T1'⟩:=k30p sh N1.ft.2 N1.ft.1 _ a (.inr ⟨o,rfl,ho,ho1⟩) (by omega) hB x hx;obtain⟨pB1,pl1⟩:=BE.putV hB hx (m:=a) (by omega);have p31:=upp (k28 _ pl1 pB1) rfl;have rw1:=rowsC_n (m:=Go.Av.putV a x) rfl;have p41:=upp (k31 [x] (by simp) (fun z hz=>by rw[mem_singleton.1 hz];exact hx)) rfl;have p51:=upp (k32 [x] (by simp) (fun z hz=>by rw[mem_singleton.1 hz];exact hx)) rfl;have w1:IntKind.i64.wrap 2=2:=w64 (by decide) (by decide);refine⟨T1,(hN.ext F1 T1').1,T1',?_⟩;simp only[rowE] at p11 p21;simp only[rowE,cons_append,nil_append]
  conv=>lhs;rw[Y_loop (L:=L6p_1) rfl]
  rcases O1 with ⟨rfl,z1⟩ | ⟨o1,rfl,z1,_⟩
  ·rw[z1] at p11 p31
   rw[ens_nil] at p11 p31;simp only[go_sem,p11,p21,p31,mks8,ens_one,p41,p51,bne_b,w1,ne_eq,not_true_eq_false,decide_false,Bool.not_true]
  ·simp only[go_sem,p11,p21,z1,rw1,p31,mks8,ens_one,p41,p51,bne_b,w1,ne_eq,not_true_eq_false,decide_false,Bool.not_true]
theorem l6bs (sh:LL) (hN:NFS sh) (o:Nat) (a:List En) (ho:sh[o]?=some (cls a)) (ho1:1<=o) (hl:a.length<=100) (hB:∀ e∈a,BE e) (b:Bool) (md:Own) (ks:List Bs) (e x:En) (he:BE e) (hx:BE x) :
  ∃ T,NFS T/\T.take sh.length=sh/\execX Gp L6p_1 (ST [(13,.ss o 0 a.length 8),(15,.sl md 1 (strs ks)),(46,.bool false),(55,.bool b),(74,.int .i64 a.length),(75,.int .i64 a.length),(76,.bool false),(89,.agg (rowE e++rowE x)),(90,.int .i64 0)] [] sh)=some (.ex 2,ST [(13,.ss o 0 a.length 8),(15,.sl md 1 (strs ks)),(46,.bool false),(55,.bool b),(74,.int .i64 a.length),(75,.int .i64 a.length),(76,.bool false),(89,.agg (rowE e++rowE x)),(90,.int .i64 2),(91,.bool false)] [] T):=by
 obtain⟨T1,n1,t1,x1⟩:=l6bes sh hN o a ho ho1 hl hB b md ks e x he hx;have g1:=(hN.ext n1.ft.1 t1).2;obtain⟨T2,n2,t2,x2⟩:=l6bxs T1 n1 o a (g1 o _ ho) ho1 hl hB b md ks e x he hx;have hle:sh.length<=T1.length:=by have:=congrArg List.length t1;rw[length_take] at this;omega
 refine⟨T2,n2,?_,?_⟩
 ·rw[<- t2,take_take,Nat.min_eq_left hle] at t1
  exact t1
 ·rw[x1,x2]
  simp only[rowE,cons_append,nil_append];rw[Y_loop (L:=L6p_1) rfl];simp only[go_sem]
theorem l6cs (sh:LL) (hN:NFS sh) (o:Nat) (a:List En) (ho:sh[o]?=some (cls a)) (ho1:1<=o) (hl:a.length<=100) (hB:∀ e∈a,BE e) (b:Bool) (md:Own) (ks:List Bs) (hk:ks.length<=1000) (e x:En):∀ (k i:Nat),i+k=ks.length ->
  execX Gp L6p_2 (ST [(13,.ss o 0 a.length 8),(46,.bool false),(55,.bool b),(74,.int .i64 a.length),(75,.int .i64 a.length),(76,.bool false),(89,.agg (rowE e++rowE x)),(90,.int .i64 2),(91,.bool false),(124,.sl md 1 (strs ks)),(125,.int .i64 ks.length),(126,.int .i64 i)] [] sh)=some (.ex 4,(ST [(13,.ss o 0 a.length 8),(46,.bool false),(55,.bool b),(74,.int .i64 a.length),(75,.int .i64 a.length),(76,.bool false),(89,.agg (rowE e++rowE x)),(90,.int .i64 2),(91,.bool false),(124,.sl md 1 (strs ks)),(125,.int .i64 ks.length),(126,.int .i64 ks.length),(127,.bool false)] [] sh))
 | 0,i,h=>by
  have:i=ks.length:=by omega
  subst this;simp only[rowE,cons_append,nil_append];rw[Y_loop (L:=L6p_2) rfl];simp only[go_sem,Int.lt_irrefl]
 | k+1,i,h=>by
  have h3:i < ks.length:=by omega
  have h4:(i:Int) < (ks.length:Int):=by omega
  have h0:(0:Int)<=(i:Int):=by omega
  have hw:IntKind.i64.wrap ((i:Int)+1)=((i+1:Nat):Int):=by rw[w64 (by omega) (by omega)];rfl
  have hr:=strs_at (getElem?_eq_getElem h3);generalize ks[i]=y at hr;have p1:=k33p sh hN.ft.2 hN.ft.1 hN.rf o a ho (by omega) hB y;have p2:=k34p sh hN.ft.2 hN.ft.1 hN.rf o a ho (by omega) hB y;have p3:=upp (k35 a (by omega) hB y) rfl;have p4:=upp (k36 a (by omega) hB y) rfl;have hrw:=rowsC_n (m:=a) rfl;obtain⟨pB,pl⟩:=BE.delV hB y (by omega);have p5:=upp (k28 _ pl pB) rfl;unfold delV at p2 p5;have ih:=l6cs sh hN o a ho ho1 hl hB b md ks hk e x k (i+1) (by omega);simp only[rowE,cons_append,nil_append] at ih ⊢;rw[Y_loop (L:=L6p_2) rfl];simp only[go_sem,h4,h0,hw,hr,ho,hrw,p1,p2,p3,p4,p5,bne_b,ne_eq,not_true_eq_false,decide_false,Bool.not_true];exact ih
theorem l6bez (sh:LL) (hN:NFS sh) (b:Bool) (md:Own) (ks:List Bs) (e x:En) (he:BE e) (hx:BE x) :
  ∃ T,NFS T/\T.take sh.length=sh/\execX Gp L6p_1 (ST [(13,.sl .full 8 []),(15,.sl md 1 (strs ks)),(46,.bool false),(55,.bool b),(74,.int .i64 0),(75,.int .i64 0),(76,.bool false),(89,.agg (rowE e++rowE x)),(90,.int .i64 0)] [] sh)=execX Gp L6p_1 (ST [(13,.sl .full 8 []),(15,.sl md 1 (strs ks)),(46,.bool false),(55,.bool b),(74,.int .i64 0),(75,.int .i64 0),(76,.bool false),(89,.agg (rowE e++rowE x)),(90,.int .i64 1)] [] T):=by
  have N1:=hN;have p11:=k27z sh e he;obtain⟨v1,T1,p21,O1,F1,_,T1'⟩:=k30p sh N1.ft.2 N1.ft.1 _ [] (.inl ⟨rfl,rfl⟩) (by decide) noB e he;obtain⟨pB1,pl1⟩:=BE.putV noB he (m:=[]) (by decide);have p31:=upp (k28 _ pl1 pB1) rfl;have rw1:=rowsC_n (m:=Go.Av.putV [] e) rfl;have p41:=upp (k31 [e] (by simp) (fun z hz=>by rw[mem_singleton.1 hz];exact he)) rfl;have p51:=upp (k32 [e] (by simp) (fun z hz=>by rw[mem_singleton.1 hz];exact he)) rfl;have w1:IntKind.i64.wrap 1=1:=w64 (by decide) (by decide);refine⟨T1,(hN.ext F1 T1').1,T1',?_⟩;simp only[rowE] at p11 p21;simp only[rowE,cons_append,nil_append]
  conv=>lhs;rw[Y_loop (L:=L6p_1) rfl]
  rcases O1 with ⟨rfl,z1⟩ | ⟨o1,rfl,z1,_⟩
  ·rw[z1] at p11 p31
   rw[ens_nil] at p11 p31;simp only[go_sem,p11,p21,p31,mks8,ens_one,p41,p51,bne_b,w1,ne_eq,not_true_eq_false,decide_false,Bool.not_true]
  ·simp only[go_sem,p11,p21,z1,rw1,p31,mks8,ens_one,p41,p51,bne_b,w1,ne_eq,not_true_eq_false,decide_false,Bool.not_true]
theorem l6bxz (sh:LL) (hN:NFS sh) (b:Bool) (md:Own) (ks:List Bs) (e x:En) (he:BE e) (hx:BE x) :
  ∃ T,NFS T/\T.take sh.length=sh/\execX Gp L6p_1 (ST [(13,.sl .full 8 []),(15,.sl md 1 (strs ks)),(46,.bool false),(55,.bool b),(74,.int .i64 0),(75,.int .i64 0),(76,.bool false),(89,.agg (rowE e++rowE x)),(90,.int .i64 1)] [] sh)=execX Gp L6p_1 (ST [(13,.sl .full 8 []),(15,.sl md 1 (strs ks)),(46,.bool false),(55,.bool b),(74,.int .i64 0),(75,.int .i64 0),(76,.bool false),(89,.agg (rowE e++rowE x)),(90,.int .i64 2)] [] T):=by
  have N1:=hN;have p11:=k27z sh x hx;obtain⟨v1,T1,p21,O1,F1,_,T1'⟩:=k30p sh N1.ft.2 N1.ft.1 _ [] (.inl ⟨rfl,rfl⟩) (by decide) noB x hx;obtain⟨pB1,pl1⟩:=BE.putV noB hx (m:=[]) (by decide);have p31:=upp (k28 _ pl1 pB1) rfl;have rw1:=rowsC_n (m:=Go.Av.putV [] x) rfl;have p41:=upp (k31 [x] (by simp) (fun z hz=>by rw[mem_singleton.1 hz];exact hx)) rfl;have p51:=upp (k32 [x] (by simp) (fun z hz=>by rw[mem_singleton.1 hz];exact hx)) rfl;have w1:IntKind.i64.wrap 2=2:=w64 (by decide) (by decide);refine⟨T1,(hN.ext F1 T1').1,T1',?_⟩;simp only[rowE] at p11 p21;simp only[rowE,cons_append,nil_append]
  conv=>lhs;rw[Y_loop (L:=L6p_1) rfl]
  rcases O1 with ⟨rfl,z1⟩ | ⟨o1,rfl,z1,_⟩
  ·rw[z1] at p11 p31
   rw[ens_nil] at p11 p31;simp only[go_sem,p11,p21,p31,mks8,ens_one,p41,p51,bne_b,w1,ne_eq,not_true_eq_false,decide_false,Bool.not_true]
  ·simp only[go_sem,p11,p21,z1,rw1,p31,mks8,ens_one,p41,p51,bne_b,w1,ne_eq,not_true_eq_false,decide_false,Bool.not_true]
theorem l6bz (sh:LL) (hN:NFS sh) (b:Bool) (md:Own) (ks:List Bs) (e x:En) (he:BE e) (hx:BE x) :
  ∃ T,NFS T/\T.take sh.length=sh/\execX Gp L6p_1 (ST [(13,.sl .full 8 []),(15,.sl md 1 (strs ks)),(46,.bool false),(55,.bool b),(74,.int .i64 0),(75,.int .i64 0),(76,.bool false),(89,.agg (rowE e++rowE x)),(90,.int .i64 0)] [] sh)=some (.ex 2,ST [(13,.sl .full 8 []),(15,.sl md 1 (strs ks)),(46,.bool false),(55,.bool b),(74,.int .i64 0),(75,.int .i64 0),(76,.bool false),(89,.agg (rowE e++rowE x)),(90,.int .i64 2),(91,.bool false)] [] T):=by
 obtain⟨T1,n1,t1,x1⟩:=l6bez sh hN b md ks e x he hx;have g1:=(hN.ext n1.ft.1 t1).2;obtain⟨T2,n2,t2,x2⟩:=l6bxz T1 n1  b md ks e x he hx;have hle:sh.length<=T1.length:=by have:=congrArg List.length t1;rw[length_take] at this;omega
 refine⟨T2,n2,?_,?_⟩
 ·rw[<- t2,take_take,Nat.min_eq_left hle] at t1
  exact t1
 ·rw[x1,x2]
  simp only[rowE,cons_append,nil_append];rw[Y_loop (L:=L6p_1) rfl];simp only[go_sem]
theorem l6cz (sh:LL) (hN:NFS sh) (b:Bool) (md:Own) (ks:List Bs) (hk:ks.length<=1000) (e x:En):∀ (k i:Nat),i+k=ks.length ->
  execX Gp L6p_2 (ST [(13,.sl .full 8 []),(46,.bool false),(55,.bool b),(74,.int .i64 0),(75,.int .i64 0),(76,.bool false),(89,.agg (rowE e++rowE x)),(90,.int .i64 2),(91,.bool false),(124,.sl md 1 (strs ks)),(125,.int .i64 ks.length),(126,.int .i64 i)] [] sh)=some (.ex 4,(ST [(13,.sl .full 8 []),(46,.bool false),(55,.bool b),(74,.int .i64 0),(75,.int .i64 0),(76,.bool false),(89,.agg (rowE e++rowE x)),(90,.int .i64 2),(91,.bool false),(124,.sl md 1 (strs ks)),(125,.int .i64 ks.length),(126,.int .i64 ks.length),(127,.bool false)] [] sh))
 | 0,i,h=>by
  have:i=ks.length:=by omega
  subst this;simp only[rowE,cons_append,nil_append];rw[Y_loop (L:=L6p_2) rfl];simp only[go_sem,Int.lt_irrefl]
 | k+1,i,h=>by
  have h3:i < ks.length:=by omega
  have h4:(i:Int) < (ks.length:Int):=by omega
  have h0:(0:Int)<=(i:Int):=by omega
  have hw:IntKind.i64.wrap ((i:Int)+1)=((i+1:Nat):Int):=by rw[w64 (by omega) (by omega)];rfl
  have hr:=strs_at (getElem?_eq_getElem h3);generalize ks[i]=y at hr;have p1:=k33z sh y;have p2:=k34z sh y;rw[hasM_nil] at p1;simp only[Bool.false_eq_true,if_false] at p1;have p3:=upp (k35 [] (by decide) noB y) rfl;have p4:=upp (k36 [] (by decide) noB y) rfl;have p5:=upp (k28 [] (by decide) noB) rfl;rw[ens_nil] at p1 p3 p4 p5;have ih:=l6cz sh hN b md ks hk e x k (i+1) (by omega);simp only[rowE,cons_append,nil_append] at ih ⊢;rw[Y_loop (L:=L6p_2) rfl];simp only[go_sem,h4,h0,hw,hr,p1,p2,p3,p4,p5,bne_b,ne_eq,not_true_eq_false,decide_false,Bool.not_true];exact ih
end Go.Av
namespace Go.Av
open Go.Nt
theorem NFS.set {sh:LL} (h:NFS sh) (o:Nat) (ho1:1<=o) {c:List AV} (hc:c.all flatB=true):NFS (sh.set o c):=by
 obtain⟨l,p,R,rfl,hF⟩:=h;obtain⟨j,rfl⟩:∃ j,o=j+1:=⟨o - 1,by omega⟩
 refine⟨l,p,R.set j c,rfl,fun i x hi hx=>?_⟩;rw[getElem?_set] at hx
 split at hx
 ·split at hx
  ·cases hx;exact .inl hc
  ·cases hx
 ·exact hF i x hi hx
theorem mks3 (x y z:Bs):mksA 1 [.str []] 3 [0,1,2] [.str x,.str y,.str z]=some (.sl .full 1 (strs [x,y,z])):=rfl
theorem k6 (l m:List Int) (w:Int) (e:En) (ue:UE e) (s:Bs) (b:Bool):Gp 6 [.sl .no 1 (ints l),.sl .no 1 (ints m),.int .i64 w,.agg (rowE e),.str s,.bool b] []=some (.bool true,[]):=by
 have a0:=upp (k29 e ue) rfl;have a20:=upp k20 rfl;refine contract F6p rfl rfl rfl ?_;by_cases g1:(200:Int) < (l.length:Int)
 ·simp only[F6p,rowE,go_sem,ints_length,g1,a20]
 by_cases g2:(80:Int) < (m.length:Int)
 ·simp only[F6p,rowE,go_sem,ints_length,g1,g2,a20]
 by_cases g3:wtE e<=500
 case neg =>
  rw[decide_eq_false g3] at a0;simp only[rowE] at a0;simp only[F6p,rowE,go_sem,ints_length,g1,g2,a0,Bool.not_false,a20]
 rw[decide_eq_true g3] at a0;simp only[rowE] at a0;by_cases g4:(200:Int) < (s.length:Int)
 ·simp only[F6p,rowE,go_sem,ints_length,g1,g2,a0,Bool.not_true,g4,a20]
 have he:=BE.of_wt g3;obtain⟨x,hx,x0⟩:=k21s m w;have x0:=upp x0 rfl;have x1:=upp (k26 x hx) rfl;obtain⟨n',a,v,R,hm,hl,hO,hF,a1⟩:=k25p l 6 (by decide);have hN:NFS (num l n' :: R):=⟨_,_,_,rfl,hF⟩
 have c6:((6:Nat):Int)=6:=rfl;rw[c6] at a1;simp only[rowE] at x0 x1;rcases hO with ⟨rfl,rfl⟩ | ⟨o,rfl,ho,ho1⟩
 ·have z1:=upp (k31 [] (by decide) noB) rfl
  have z2:=upp (k32 [] (by decide) noB) rfl;rw[ens_nil] at z1 z2;generalize okM []=ok at z1 z2
  cases b with
  | false =>
   obtain⟨T,n1,t1,y1⟩:=l6bz _ hN false .full [s,keyE x,[]] e x he hx;have y2:=l6cz T n1 false .full [s,keyE x,[]] (by simp) e x 3 0 rfl;simp only[rowE,cons_append,nil_append,go_sem] at y1 y2;simp only[F6p,rowE,go_sem,ints_length,g1,g2,a0,Bool.not_true,g4,a1,x0,x1,mks3,length_nil];rw[Y_loop (L:=L6p_0) rfl];simp only[go_sem,Int.lt_irrefl,y1,y2,strs_len',z1,z2,beq_self_eq_true,a20]
  | true =>
   obtain⟨T,n1,t1,y1⟩:=l6bz _ hN false .full [s,keyE x,[]] e x he hx;have y2:=l6cz T n1 false .full [s,keyE x,[]] (by simp) e x 3 0 rfl;have hb:¬ (1:Int) < 0:=by decide
   simp only[rowE,cons_append,nil_append,go_sem] at y1 y2;simp only[F6p,rowE,go_sem,ints_length,g1,g2,a0,Bool.not_true,g4,a1,x0,x1,mks3,length_nil,hb,decide_false];rw[Y_loop (L:=L6p_0) rfl];simp only[go_sem,Int.lt_irrefl,y1,y2,strs_len',z1,z2,beq_self_eq_true,a20]
 ·have key:∀ (b:Bool) (a:List En) (sh:LL),NFS sh->sh[o]?=some (cls a)->a.length<=6->(∀ e∈a,BE e) ->
    ∃ (md1:Own) (T:LL) (ks:List Bs) (ok:Bool),md1≠.no /\
     execX Gp L6p_0 (ST [(9,.loc 9 0),(13,.ss o 0 a.length 8),(14,.loc 14 0),(15,.sl .full 1 (strs [s,keyE x,[]])),(46,.bool false),(55,.bool b),(74,.int .i64 a.length),(75,.int .i64 0)] [(9,some (rowE e)),(14,some (rowE x))] sh)=some (.ex 0,ST [(9,.loc 9 0),(13,.ss o 0 a.length 8),(14,.loc 14 0),(15,.sl md1 1 (strs ks)),(46,.bool false),(55,.bool b),(74,.int .i64 a.length),(75,.int .i64 a.length),(76,.bool false)] [(9,some (rowE e)),(14,some (rowE x))] sh) /\
     execX Gp L6p_1 (ST [(13,.ss o 0 a.length 8),(15,.sl md1 1 (strs ks)),(46,.bool false),(55,.bool b),(74,.int .i64 a.length),(75,.int .i64 a.length),(76,.bool false),(89,.agg (rowE e++rowE x)),(90,.int .i64 0)] [] sh)=some (.ex 2,ST [(13,.ss o 0 a.length 8),(15,.sl md1 1 (strs ks)),(46,.bool false),(55,.bool b),(74,.int .i64 a.length),(75,.int .i64 a.length),(76,.bool false),(89,.agg (rowE e++rowE x)),(90,.int .i64 2),(91,.bool false)] [] T) /\
     (∀ md:Own,execX Gp L6p_2 (ST [(13,.ss o 0 a.length 8),(46,.bool false),(55,.bool b),(74,.int .i64 a.length),(75,.int .i64 a.length),(76,.bool false),(89,.agg (rowE e++rowE x)),(90,.int .i64 2),(91,.bool false),(124,.sl md 1 (strs ks)),(125,.int .i64 ks.length),(126,.int .i64 0)] [] T)=some (.ex 4,ST [(13,.ss o 0 a.length 8),(46,.bool false),(55,.bool b),(74,.int .i64 a.length),(75,.int .i64 a.length),(76,.bool false),(89,.agg (rowE e++rowE x)),(90,.int .i64 2),(91,.bool false),(124,.sl md 1 (strs ks)),(125,.int .i64 ks.length),(126,.int .i64 ks.length),(127,.bool false)] [] T)) /\
     T[o]?=some (cls a)/\Gp 31 [.sl .no 8 (ens a)] []=some (.bool ok,[])/\Gp 32 [.sl .no 8 (ens a)] []=some (.bool ok,[]):=by
   intro b a sh hN ho hl hB;obtain⟨md1,m1,y0⟩:=l6a (rowE e) (rowE x) sh hN o a ho ho1 (by omega) hB b a.length 0 .full [s,keyE x,[]] (by decide) (Nat.zero_add _) (by simp);rw[drop_zero] at y0;obtain⟨T,n1,t1,y1⟩:=l6bs sh hN o a ho ho1 (by omega) hB b md1 ([s,keyE x,[]]++a.map keyE) e x he hx;have hoT:=(hN.ext n1.ft.1 t1).2 o _ ho;refine⟨md1,T,_,okM a,m1,y0,y1,fun md=>?_,hoT,upp (k31 a (by omega) hB) rfl,upp (k32 a (by omega) hB) rfl⟩;exact l6cs T n1 o a hoT ho1 (by omega) hB b md _ (by simp;omega) e x _ 0 (Nat.zero_add _)
  have hrw:=rowsC_n (m:=a) rfl;by_cases hb:b=true/\(1:Int) < (a.length:Int)
  ·obtain⟨rfl,hb⟩:=hb
   obtain⟨p,q,r,rfl⟩:∃ p q r,a=p :: q :: r:=by
    match a,hb with
    | p :: q :: r,_=>exact⟨p,q,r,rfl⟩
    | [_],hb=>simp at hb
    | [],hb=>simp at hb
   have hol:o < (num l n' :: R).length:=(List.getElem?_eq_some_iff.1 ho).1;have hB:∀ z∈(q :: p :: r),BE z:=fun z hz=>hm.be z (by simp at hz ⊢;rcases hz with h | h | h<;>simp [h])
   have r0:=cls_at (p :: q :: r) 0 p rfl;have r1:=cls_at (p :: q :: r) 1 q rfl;have s0:=putC_set (p :: q :: r) 0 q (by simp);have s1:=putC_set (q :: q :: r) 1 p (by simp);rw[putC_L _ _ _ (by simp [rowE])] at s0 s1;simp only[Nat.zero_mul,drop_zero,Nat.one_mul,take_zero,nil_append,drop_succ_cons,take_succ_cons,cons_append] at r0 r1 s0 s1;have hs1:((num l n' :: R).set o (cls (q :: q :: r)))[o]?=some (cls (q :: q :: r)):=by rw[getElem?_set_self hol]
   have hs2:((num l n' :: R).set o (cls (q :: p :: r)))[o]?=some (cls (q :: p :: r)):=by rw[getElem?_set_self hol]
   have hN2:=hN.set o ho1 (cls_flat (q :: p :: r));obtain⟨md1,T,ks,ok,m1,y0,y1,y2,hoT,z1,z2⟩:=key true (q :: p :: r) _ hN2 hs2 (by simpa using hl) hB;have hln:(q :: p :: r).length=(p :: q :: r).length:=rfl;have hrw:=rowsC_n (m:=q :: p :: r) rfl;rw[hln] at y0 y1 y2 hrw;generalize (p :: q :: r).length=N at *;simp only[rowE,cons_append,nil_append,go_sem] at y0 y1 y2 r0 r1 s0 s1;have y2a:=y2 .no;have y2b:=y2 .full;have hb0:(0:Int) < (N:Int):=by omega
   cases md1 with
   | no=>exact absurd rfl m1
   | full =>
    simp only[F6p,rowE,go_sem,ints_length,g1,g2,a0,Bool.not_true,g4,a1,x0,x1,mks3,hb,hb0,decide_true,ho,r0,r1,s0,s1,hs1,cls_blk,set_set,y0,y1,y2b,strs_len',hoT,hrw,z1,z2,beq_self_eq_true,a20]
   | own =>
    simp only[F6p,rowE,go_sem,ints_length,g1,g2,a0,Bool.not_true,g4,a1,x0,x1,mks3,hb,hb0,decide_true,ho,r0,r1,s0,s1,hs1,cls_blk,set_set,y0,y1,y2a,strs_len',hoT,hrw,z1,z2,beq_self_eq_true,a20]
  ·obtain⟨md1,T,ks,ok,m1,y0,y1,y2,hoT,z1,z2⟩:=key false a _ hN ho (by omega) hm.be
   simp only[rowE,cons_append,nil_append,go_sem] at y0 y1 y2;have y2a:=y2 .no;have y2b:=y2 .full
   cases b with
   | false =>
    cases md1 with
    | no=>exact absurd rfl m1
    | full =>
     simp only[F6p,rowE,go_sem,ints_length,g1,g2,a0,Bool.not_true,g4,a1,x0,x1,mks3,y0,y1,y2b,strs_len',hoT,hrw,z1,z2,beq_self_eq_true,a20]
    | own =>
     simp only[F6p,rowE,go_sem,ints_length,g1,g2,a0,Bool.not_true,g4,a1,x0,x1,mks3,y0,y1,y2a,strs_len',hoT,hrw,z1,z2,beq_self_eq_true,a20]
   | true =>
    have hb:¬ (1:Int) < (a.length:Int):=fun q=>hb ⟨rfl,q⟩
    cases md1 with
    | no=>exact absurd rfl m1
    | full =>
     simp only[F6p,rowE,go_sem,ints_length,g1,g2,a0,Bool.not_true,g4,a1,x0,x1,mks3,hb,decide_false,y0,y1,y2b,strs_len',hoT,hrw,z1,z2,beq_self_eq_true,a20]
    | own =>
     simp only[F6p,rowE,go_sem,ints_length,g1,g2,a0,Bool.not_true,g4,a1,x0,x1,mks3,hb,decide_false,y0,y1,y2a,strs_len',hoT,hrw,z1,z2,beq_self_eq_true,a20]
end Go.Av
