/- The union of two memories, by both packages. No conditions. The reference's union of two memories. No conditions. The laws MemoryUnites and MemoryGreater. No conditions. strings.Builder in this program; calls of functions that make no objects, as calls of the model. No conditions. exchange.Format: a walk over the program's code with strings.Builder. No conditions. Whether a list of entries is a memory, and its first error, by both packages. No conditions. -/
import Derived.Test.YtmjfblcmbcfkcaaGreatDoorG2XK
import Derived.Test.YtmjfblcmbcfkcaaGreatDoorG2Sm
import Derived.Shelf.Strings.BuilderK
import Derived.KernelRfl
import Derived.Test.YtmjfblcmbcfkcaaGreatDoorG2XC
import Derived.Test.YtmjfblcmbcfkcaaGreatDoorChecked
import Derived.Deep.LoopGhost
import Derived.Deep.RegionHeld3
import Derived.Deep.DeepCutAuto
import Derived.Lib.Walk
import Derived.IntWalk
import Derived.Lib.Hide
import Derived.Test.YtmjfblcmbcfkcaaGreatDoorG2XI
open List
set_option linter.unusedSimpArgs false
set_option linter.unusedVariables false
set_option linter.unusedSectionVars false
set_option maxRecDepth 100000
set_option maxHeartbeats 16000000
namespace Go.Av
open Go.Nt
def iv (c:List Int):List AV:=c.map (AV.int .i64)
theorem zEG {c:List Int} {i:Nat} {x:Int} (h:c[i]?=some x):(iv c)[i]?=some (.int .i64 x):=by simp [iv,h]
theorem XO (c:List Int):(iv c).length=c.length:=by simp [iv]
theorem l40k (c:List Int) (hl:c.length=6):∀ (k i:Nat),i+k=6 ->
  (orF (c.drop i)=0->∃ l',aC G0 uT (ST [(51,.agg (iv c)),(52,.int .i64 i)] [] [])=some (.ex 0,ST l' [] [])) /\
  (orF (c.drop i)≠0->∃ l',aC G0 uT (ST [(51,.agg (iv c)),(52,.int .i64 i)] [] [])=some (.ret,ST l' [] [])/\aE .any l' 4=.int .i64 (orF (c.drop i)))
 | 0,i,h=>by
  have:i=6:=by omega
  subst this;have e:c.drop 6=[]:=drop_of_length_le (by omega);have c6:((6:Nat):Int)=6:=rfl;rw[e,c6];refine⟨fun _=>?_,fun h=>(by simp [orF] at h)⟩;refine Exists.intro ?_ ?_
  rotate_left 1
  rw[aB (L:=uT) rfl];simp only[go_sem,Int.lt_irrefl];rfl
 | k+1,i,h=>by
  have hi:i < c.length:=by omega
  have h4:(i:Int) < 6:=by omega
  have h0:(0:Int)<=(i:Int):=by omega
  have hw:=wI (i:=i) (by omega)
  have hg:c[i]?=some c[i]:=getElem?_eq_getElem hi;have hd:c.drop i=c[i] :: c.drop (i+1):=drop_eq_getElem_cons hi;generalize c[i]=a at hg hd;have hr:=zEG hg;have hL:(iv c).length=6:=by rw[XO,hl]
  have ih:=l40k c hl k (i+1) (by omega);rw[hd];by_cases q:a=0
  ·have e:orF (a :: c.drop (i+1))=orF (c.drop (i+1)):=by simp [orF,q]
   rw[e];have step:aC G0 uT (ST [(51,.agg (iv c)),(52,.int .i64 i)] [] [])=aC G0 uT (ST [(51,.agg (iv c)),(52,.int .i64 ((i+1:Nat):Int))] [] []):=by
    conv=>lhs;rw[aB (L:=uT) rfl]
    simp only[go_sem,h4,h0,hr,hw,hL,q,Int.toNat_natCast,Nat.mul_one,ne_eq,not_true_eq_false,decide_false]
   rw[step];exact ih
  ·have e:orF (a :: c.drop (i+1))=a:=by simp [orF,q]
   rw[e];refine⟨fun z=>absurd z q,fun _=>?_⟩;refine Exists.intro ?_ (And.intro ?_ ?_)
   rotate_left 1
   ·rw[aB (L:=uT) rfl]
    simp only[go_sem,h4,h0,hr,hw,hL,q,Int.toNat_natCast,Nat.mul_one,ne_eq,not_false_eq_true,decide_true];rfl
   ·rfl
theorem k40 (x y:En) (hx:BE x) (hy:BE y):G0 83 [.agg (aN x),.agg (aN y)] []=some (.int .i64 (gM x y),[]):=by
 obtain⟨l1,l2,l3⟩:=hx.lT;obtain⟨m1,m2,m3⟩:=hy.lT;have a1:=c33 x.T (by omega) l3;have a2:=c33 y.T (by omega) m3;rw[rC] at a1 a2;have b1:=k26 x hx;have b2:=k26 y hy;simp only[aN] at b1 b2;have d1:=k83 (aG x) (aG y);have d2:=k84 x.c y.c;have d3:=k84 y.o x.o;have d4:=k83 x.a y.a;have d5:=k83 x.j y.j;have d6:=k83 (fmE x.T) (fmE y.T);have e:=IB x y;obtain⟨x1,x2⟩:=l40k [eT (aG x) (aG y),qG x.c y.c,qG y.o x.o,eT x.a y.a,eT x.j y.j,eT (fmE x.T) (fmE y.T)] rfl 6 0 (by omega);have ec:((0:Nat):Int)=0:=rfl;rw[drop_zero,ec,<- e] at x1 x2;simp only[iv,map_cons,map_nil] at x1 x2;refine aA F83 rfl rfl rfl ?_;by_cases q:gM x y=0
 ·obtain⟨l',y1⟩:=x1 q
  rw[q];simp only[F83,aN,go_sem,a1,a2,b1,b2,d1,d2,d3,d4,d5,d6,y1,fF,gF,not_mem_nil,if_true,if_false]
 ·obtain⟨l',y1,y2⟩:=x2 q
  simp only[F83,aN,go_sem,a1,a2,b1,b2,d1,d2,d3,d4,d5,d6,y1,y2]
theorem UO {m:List En} {i:Nat} {e:En} (h:m[i]?=some e):(cP (m.map bX))[i]?=some [.str (bX e)]:=eW (by rw[getElem?_map,h];rfl)
theorem E5 (a b:List En) (la:a.length<=1024) (lb:b.length<=1024) (ma:Mem a) (mb:Mem b) (hA:∀ e∈a,BE e) (hB:∀ e∈b,BE e):∀ (n i j:Nat) (out:List En) (md:Own),i<=a.length->j<=b.length->(a.length - i)+(b.length - j)<=n->out.length<=i+j->md≠.no ->
  ∃ md',aC G0 tH (ST [(0,.sl .no 8 (ens a)),(1,.sl .no 8 (ens b)),(6,.sl .no 1 (cP (a.map bX))),(8,.sl .no 1 (cP (b.map bX))),(10,.sl md 8 (ens out)),(11,.int .i64 i),(12,.int .i64 j),(29,.bool false)] [] [])=some (.ex 0,ST [(0,.sl .no 8 (ens a)),(1,.sl .no 8 (ens b)),(6,.sl .no 1 (cP (a.map bX))),(8,.sl .no 1 (cP (b.map bX))),(10,.sl md' 8 (ens (out++uni (a.drop i) (b.drop j)))),(11,.int .i64 a.length),(12,.int .i64 b.length),(29,.bool false),(39,.bool false)] [] [])
 | n,i,j,out,md,hi,hj,hn,ho,hm=>by
  by_cases qi:i=a.length
  ·by_cases qj:j=b.length
   ·subst qi;subst qj
    refine⟨md,?_⟩;rw[drop_length,drop_length,pG,append_nil];rw[aB (L:=tH) rfl];simp only[go_sem,aK,Int.lt_irrefl,decide_false]
   ·subst qi
    cases n with
    | zero=>omega
    | succ n =>
     have hj2:j < b.length:=by omega
     have hg:b[j]?=some b[j]:=getElem?_eq_getElem hj2;have hd:b.drop j=b[j] :: b.drop (j+1):=drop_eq_getElem_cons hj2;have hBe:=hB _ (getElem_mem hj2);generalize b[j]=y at hg hd hBe;have hr:=fI hg;have a1:=k69 y hBe;simp only[aN] at a1;have p:=FM (o:=.full) hm out [y] (by simp;omega);obtain⟨md',ih⟩:=E5 a b la lb ma mb hA hB n a.length (j+1) (out++[y]) .own (Nat.le_refl _) hj2 (by omega) (by simp;omega) (by decide);refine⟨md',?_⟩;rw[drop_length,sC] at ih ⊢;rw[hd];rw[append_assoc] at ih;have h4:(j:Int) < (b.length:Int):=by omega
     have h5:((j:Int)=(b.length:Int))=False:=eq_false (by omega);have h0:(0:Int)<=(j:Int):=by omega
     have hw:IntKind.i64.wrap ((j:Int)+1)=((j+1:Nat):Int):=by rw[w64 (by omega) (by omega)];rfl
     rw[aB (L:=tH) rfl];simp only[go_sem,aK,Int.lt_irrefl,decide_false,decide_true,h4,h5,h0,hw,hr,a1,wX,m6,p];exact ih
  ·have hi2:i < a.length:=by omega
   have hg:a[i]?=some a[i]:=getElem?_eq_getElem hi2;have hd:a.drop i=a[i] :: a.drop (i+1):=drop_eq_getElem_cons hi2;have hBe:=hA _ (getElem_mem hi2);have hV:=ma.1 _ (getElem_mem hi2);generalize a[i]=x at hg hd hBe hV;have hr:=fI hg;have hs:=UO hg;have a1:=k69 x hBe;simp only[aN] at a1;have p:=FM (o:=.full) hm out [x] (by simp;omega);have h4:(i:Int) < (a.length:Int):=by omega
   have h5:((i:Int)=(a.length:Int))=False:=eq_false (by omega);have h0:(0:Int)<=(i:Int):=by omega
   have hw:=wI (i:=i) (by omega)
   cases n with
   | zero=>omega
   | succ n =>
   by_cases qj:j=b.length
   ·subst qj
    obtain⟨md',ih⟩:=E5 a b la lb ma mb hA hB n (i+1) b.length (out++[x]) .own (by omega) (Nat.le_refl _) (by omega) (by simp;omega) (by decide);refine⟨md',?_⟩;rw[drop_length,pG] at ih ⊢;rw[hd];rw[append_assoc] at ih;rw[aB (L:=tH) rfl];simp only[go_sem,aK,Int.lt_irrefl,decide_false,decide_true,h4,h5,h0,hw,hr,a1,wX,m6,p];exact ih
   ·have hj2:j < b.length:=by omega
    have gg:b[j]?=some b[j]:=getElem?_eq_getElem hj2;have gd:b.drop j=b[j] :: b.drop (j+1):=drop_eq_getElem_cons hj2;have gBe:=hB _ (getElem_mem hj2);have gV:=mb.1 _ (getElem_mem hj2);generalize b[j]=y at gg gd gBe gV;have gr:=fI gg;have gs:=UO gg;have b1:=k69 y gBe;simp only[aN] at b1;have pb:=FM (o:=.full) hm out [y] (by simp;omega);have g4:(j:Int) < (b.length:Int):=by omega
    have g5:((j:Int)=(b.length:Int))=False:=eq_false (by omega);have g0:(0:Int)<=(j:Int):=by omega
    have gw:IntKind.i64.wrap ((j:Int)+1)=((j+1:Nat):Int):=by rw[w64 (by omega) (by omega)];rfl
    have u:=nX x y (a.drop (i+1)) (b.drop (j+1));rw[<- hd,<- gd,<- jO hV,<- jO gV] at u
    cases q1:ltB (bX x) (bX y) with
    | true =>
     obtain⟨md',ih⟩:=E5 a b la lb ma mb hA hB n (i+1) j (out++[x]) .own (by omega) (by omega) (by omega) (by simp;omega) (by decide);refine⟨md',?_⟩;rw[u,if_pos q1];rw[append_assoc] at ih;rw[aB (L:=tH) rfl];simp only[go_sem,aK,decide_false,decide_true,h4,h5,h0,hw,hr,hs,g4,g5,g0,gr,gs,eC,q1,a1,wX,m6,p];exact ih
    | false =>
     cases q2:ltB (bX y) (bX x) with
     | true =>
      obtain⟨md',ih⟩:=E5 a b la lb ma mb hA hB n i (j+1) (out++[y]) .own (by omega) (by omega) (by omega) (by simp;omega) (by decide);refine⟨md',?_⟩;rw[u,if_neg (by rw[q1];decide),if_pos q2];rw[append_assoc] at ih;rw[aB (L:=tH) rfl];simp only[go_sem,aK,decide_false,decide_true,h4,h5,h0,gw,hr,hs,g4,g5,g0,gr,gs,eC,q1,q2,b1,wX,m6,pb];exact ih
     | false =>
      have c:=k39 x y hBe gBe;simp only[aN] at c;by_cases q3:gM x y < 0
      ·obtain⟨md',ih⟩:=E5 a b la lb ma mb hA hB n (i+1) (j+1) (out++[y]) .own (by omega) (by omega) (by omega) (by simp;omega) (by decide)
       refine⟨md',?_⟩;rw[u,if_neg (by rw[q1];decide),if_neg (by rw[q2];decide),if_pos q3];rw[append_assoc] at ih;rw[aB (L:=tH) rfl];simp only[go_sem,aK,decide_false,decide_true,h4,h5,h0,hw,gw,hr,hs,g4,g5,g0,gr,gs,eC,q1,q2,q3,c,b1,wX,m6,pb];exact ih
      ·obtain⟨md',ih⟩:=E5 a b la lb ma mb hA hB n (i+1) (j+1) (out++[x]) .own (by omega) (by omega) (by omega) (by simp;omega) (by decide)
       refine⟨md',?_⟩;rw[u,if_neg (by rw[q1];decide),if_neg (by rw[q2];decide),if_neg q3];rw[append_assoc] at ih;rw[aB (L:=tH) rfl];simp only[go_sem,aK,decide_false,decide_true,h4,h5,h0,hw,gw,hr,hs,g4,g5,g0,gr,gs,eC,q1,q2,q3,c,a1,wX,m6,p];exact ih
def mK (a b:List En):Int:=if okM a=true/\okM b=true then (if (uni a b).length<=1024 then 0 else 3) else 1
def wB (a b:List En):List En:=if mK a b=0 then uni a b else []
theorem nY {a b:List En} (h:¬ (okM a=true/\okM b=true)):mK a b=1/\wB a b=[]:=by
 have:mK a b=1:=by unfold mK;rw[if_neg h]
 exact⟨this,by unfold wB;rw[this];rfl⟩
theorem AD {a b:List En} (h:okM a=true) (h2:okM b=true) (hl:(uni a b).length<=1024):mK a b=0/\wB a b=uni a b:=by
 have:mK a b=0:=by unfold mK;rw[if_pos ⟨h,h2⟩,if_pos hl]
 exact⟨this,by unfold wB;rw[this];rfl⟩
theorem AC {a b:List En} (h:okM a=true) (h2:okM b=true) (hl:¬ (uni a b).length<=1024):mK a b=3/\wB a b=[]:=by
 have:mK a b=3:=by unfold mK;rw[if_pos ⟨h,h2⟩,if_neg hl]
 exact⟨this,by unfold wB;rw[this];rfl⟩
theorem k41 (a b:List En) (la:a.length<=2000) (lb:b.length<=2000) (hA:∀ e∈a,BE e) (hB:∀ e∈b,BE e):G0 48 [.sl .no 8 (ens a),.sl .no 8 (ens b)] []=some (.tup [.sl .no 8 (ens (wB a b)),.int .i64 (mK a b)],[]):=by
 have a1:=k66 a la hA;have b1:=k66 b lb hB;refine aA F48 rfl rfl rfl ?_
 cases qa:okM a with
 | false =>
  rw[qa] at a1;rw[(nY (by simp [qa])).1,(nY (by simp [qa])).2];simp only[F48,go_sem,a1,b1,Bool.not_false];rfl
 | true =>
 rw[qa] at a1
 cases qb:okM b with
 | false =>
  rw[qb] at b1;rw[(nY (by simp [qb])).1,(nY (by simp [qb])).2];simp only[F48,go_sem,a1,b1,Bool.not_false,Bool.not_true];rfl
 | true =>
  rw[qb] at b1;obtain⟨h1,h2⟩:=(pQ a).1 qa;obtain⟨h3,h4⟩:=(pQ b).1 qb;obtain⟨md',x⟩:=E5 a b h1 h3 h2 h4 hA hB (a.length+b.length) 0 0 [] .full (by omega) (by omega) (by omega) (by simp) (by decide);have ec:((0:Nat):Int)=0:=rfl;rw[drop_zero,drop_zero,ec,nil_append,vW] at x;simp only[if_true] at a1 b1;by_cases q:(uni a b).length<=1024
  ·have q':¬ (1024:Int) < ((uni a b).length:Int):=by omega
   rw[(AD qa qb q).1,(AD qa qb q).2];simp only[F48,go_sem,a1,b1,Bool.not_true,x,aK,q']
  ·have q':(1024:Int) < ((uni a b).length:Int):=by omega
   rw[(AC qa qb q).1,(AC qa qb q).2];simp only[F48,go_sem,a1,b1,Bool.not_true,x,aK,q'];rfl
end Go.Av
namespace Go.Av
open Go.Nt
def kE (out:List En) (e:En):List En:=match dL out (aG e) with
 | none=>jG out e
 | some x=>if gM x e < 0 then jG out e else out
theorem D9 {out:List En} (h:Sr out) (e:En):Sr (kE out e):=by
 unfold kE;split
 ·exact AI h e
 ·split
  ·exact AI h e
  ·exact h
theorem CP (x:Option En):mxE x none=x:=by cases x<;>rfl
theorem R1 {out:List En} (h:Sr out) (e:En) (k:Bs):dL (kE out e) k=if k=aG e then mxE (dL out k) (some e) else dL out k:=by
 unfold kE;cases hg:dL out (aG e) with
 | none =>
  simp only[];rw[HW h];by_cases q:k=aG e
  ·rw[if_pos q,if_pos q,q,hg];rfl
  ·rw[if_neg q,if_neg q]
 | some x =>
  simp only[];by_cases c:gM x e < 0
  ·rw[if_pos c,HW h]
   by_cases q:k=aG e
   ·rw[if_pos q,if_pos q,q,hg]
    show _=some (if gM x e < 0 then e else x);rw[if_pos c]
   ·rw[if_neg q,if_neg q]
  ·rw[if_neg c]
   by_cases q:k=aG e
   ·rw[if_pos q,q,hg]
    show _=some (if gM x e < 0 then e else x);rw[if_neg c]
   ·rw[if_neg q]
theorem C9:∀ (b a:List En),Sr a->Sr b->∀ k,dL (b.foldl kE a) k=mxE (dL a k) (dL b k)
 | [],a,ha,hb,k=>(CP _).symm
 | y :: b,a,ha,hb,k=>by
  rw[foldl_cons,C9 b (kE a y) (D9 ha y) (pairwise_cons.1 hb).2,R1 ha,eS];by_cases q:k=aG y
  ·rw[if_pos q,if_pos q.symm,q,JW hb,CP]
  ·rw[if_neg q,if_neg (fun z=>q z.symm)]
theorem H0:∀ (b a:List En),Sr a->Sr (b.foldl kE a)
 | [],a,h=>h
 | y :: b,a,h=>H0 b _ (D9 h y)
theorem KJ {a b:List En} (ha:Mem a) (hb:Mem b):b.foldl kE a=uni a b:=
 vK (H0 b a ha.2) (gT ha hb).2 fun k=>by rw[C9 b a ha.2 hb.2,iG _ a b (Nat.le_refl _) ha.2 hb.2]
theorem EA {P:En->Prop} {out:List En} (h:∀ x∈out,P x) {e:En} (he:P e):∀ x∈kE out e,P x:=by
 have hp:∀ x∈jG out e,P x:=fun x hx=>by
  rcases sH.1 hx with q | q
  ·rw[q];exact he
  ·exact h x q.1
 unfold kE;split
 ·exact hp
 ·split
  ·exact hp
  ·exact h
theorem O2 {out:List En} (h:Sr out) (e:En):(kE out e).length<=out.length+1:=by
 have:=CE out h e
 unfold kE;split
 ·exact this
 ·split
  ·exact this
  ·omega
theorem F0 {out:List En} (h:Mem out) {e:En} (he:VE e):Mem (kE out e):=⟨EA h.1 he,D9 h.2 e⟩
theorem W1 (b:List En) (hB:∀ e∈b,BE e) (mb:∀ e∈b,VE e) (lb:b.length<=2000):∀ (k i:Nat) (out:List En) (md:Own),i+k=b.length->Mem out->(∀ e∈out,BE e)->out.length+k<=2000 ->
  ∃ md',aC G0 zW (ST [(1,.sl .no 8 (ens b)),(6,.sl md 8 (ens out)),(16,.bool false),(20,.int .i64 b.length),(21,.int .i64 i)] [] [])=some (.ex 0,ST [(1,.sl .no 8 (ens b)),(6,.sl md' 8 (ens ((b.drop i).foldl kE out))),(16,.bool false),(20,.int .i64 b.length),(21,.int .i64 b.length),(22,.bool false)] [] [])
 | 0,i,out,md,h,m1,m2,m3=>by
  have:i=b.length:=by omega
  subst this;refine⟨md,?_⟩;rw[drop_length];rw[aB (L:=zW) rfl];simp only[go_sem,Int.lt_irrefl,foldl_nil]
 | k+1,i,out,md,h,m1,m2,m3=>by
  have hi:i < b.length:=by omega
  have h4:(i:Int) < (b.length:Int):=by omega
  have h0:(0:Int)<=(i:Int):=by omega
  have hw:=wI (i:=i) (by omega)
  have hg:b[i]?=some b[i]:=getElem?_eq_getElem hi;have hd:b.drop i=b[i] :: b.drop (i+1):=drop_eq_getElem_cons hi;have hBe:=hB _ (getElem_mem hi);have hV:=mb _ (getElem_mem hi);generalize b[i]=e at hg hd hBe hV;have hr:=fI hg;have a1:=k26 e hBe;simp only[aN] at a1;have a2:=k71 out (by omega) m2 m1 (aG e);have hle:=L8 m1 (aG e);have p0:(0:Int)<=((plc out (aG e):Nat):Int):=by omega
  have w1:=k72 out (by omega) (plc out (aG e)) e 1;have w0:=k72 out (by omega) (plc out (aG e)) e 0 (by omega);have e1:((1:Nat):Int)=1:=rfl;have e0:((0:Nat):Int)=0:=rfl;rw[e1] at w1;rw[e0,Nat.add_zero] at w0;simp only[aN] at w1 w0;have lu:=O2 m1.2 e;obtain⟨md0,ih⟩:=W1 b hB mb lb k (i+1) (kE out e) .no (by omega) (F0 m1 hV) (EA m2 hBe) (by omega);have ihs:=W1 b hB mb lb k (i+1) (kE out e) md (by omega) (F0 m1 hV) (EA m2 hBe) (by omega);rw[hd,foldl_cons];cases hgt:dL out (aG e) with
  | none =>
   have eu:kE out e=jG out e:=by unfold kE;rw[hgt]
   rw[GM m1 hgt,<- eu] at w0;refine⟨md0,?_⟩;rw[aB (L:=zW) rfl];by_cases q:plc out (aG e) < out.length
   ·have q':¬ (out.length:Int)<=((plc out (aG e):Nat):Int):=by omega
    have q2:((plc out (aG e):Nat):Int) < (out.length:Int):=by omega
    have gy:out[plc out (aG e)]?=some out[plc out (aG e)]:=getElem?_eq_getElem q;have gB:=m2 _ (getElem_mem q);have gn:=BR m1 hgt _ gy;generalize out[plc out (aG e)]=y at gy gB gn;have gr:=fI gy;have b1:=k26 y gB;simp only[aN] at b1;have q3:(aG y != aG e)=true:=by simpa using gn
    simp only[go_sem,aK,h4,h0,hw,hr,a1,a2,p0,q',q2,gr,b1,q3,w0];exact ih
   ·have q':(out.length:Int)<=((plc out (aG e):Nat):Int):=by omega
    simp only[go_sem,aK,h4,h0,hw,hr,a1,a2,p0,q',w0];exact ih
  | some x =>
   have q:=L7 m1 hgt;have q':¬ (out.length:Int)<=((plc out (aG e):Nat):Int):=by omega
   have q2:((plc out (aG e):Nat):Int) < (out.length:Int):=by omega
   have gy:=BQ m1 hgt;have gB:=m2 x (fG hgt).1;have gr:=fI gy;have b1:=k26 x gB;have q3:(aG x != aG e)=false:=by simpa using (fG hgt).2
   have c:=k40 x e gB hBe;simp only[aN] at b1 c;by_cases cc:gM x e < 0
   ·have eu:kE out e=jG out e:=by unfold kE;rw[hgt];simp only[];rw[if_pos cc]
    have w1:=w1 (by omega);rw[GL m1 hgt,<- eu] at w1;refine⟨md0,?_⟩;rw[aB (L:=zW) rfl];simp only[go_sem,aK,h4,h0,hw,hr,a1,a2,p0,q',q2,gr,b1,q3,c,cc,w1];exact ih
   ·have eu:kE out e=out:=by unfold kE;rw[hgt];simp only[];rw[if_neg cc]
    obtain⟨md1,ih1⟩:=ihs;rw[eu] at ih1 ⊢;refine⟨md1,?_⟩;rw[aB (L:=zW) rfl];simp only[go_sem,aK,h4,h0,hw,hr,a1,a2,p0,q',q2,gr,b1,q3,c,cc];exact ih1
theorem k42 (a b:List En) (la:a.length+b.length<=2000) (hA:∀ e∈a,BE e) (hB:∀ e∈b,BE e):G0 49 [.sl .no 8 (ens a),.sl .no 8 (ens b)] []=some (.tup [.sl .no 8 (ens (wB a b)),.int .i64 (mK a b)],[]):=by
 have a1:=k32 a (by omega) hA;have b1:=k32 b (by omega) hB;refine aA F49 rfl rfl rfl ?_
 cases qa:okM a with
 | false =>
  rw[qa] at a1;rw[(nY (by simp [qa])).1,(nY (by simp [qa])).2];simp only[F49,go_sem,a1,b1,Bool.not_false];rfl
 | true =>
 rw[qa] at a1
 cases qb:okM b with
 | false =>
  rw[qb] at b1;rw[(nY (by simp [qb])).1,(nY (by simp [qb])).2];simp only[F49,go_sem,a1,b1,Bool.not_false,Bool.not_true];rfl
 | true =>
  rw[qb] at b1;obtain⟨h1,h2⟩:=(pQ a).1 qa;obtain⟨h3,h4⟩:=(pQ b).1 qb;have p1:=FM (md:=.full) (o:=.no) (by decide) [] a (by simp;omega);rw[vW,nil_append] at p1;obtain⟨md',x⟩:=W1 b hB h4.1 (by omega) b.length 0 a .own (by omega) h2 hA (by omega);have ec:((0:Nat):Int)=0:=rfl;rw[drop_zero,ec,KJ h2 h4] at x;by_cases q:(uni a b).length<=1024
  ·have q':¬ (1024:Int) < ((uni a b).length:Int):=by omega
   rw[(AD qa qb q).1,(AD qa qb q).2];simp only[F49,go_sem,a1,b1,Bool.not_true,p1,x,aK,q']
  ·have q':(1024:Int) < ((uni a b).length:Int):=by omega
   rw[(AC qa qb q).1,(AC qa qb q).2];simp only[F49,go_sem,a1,b1,Bool.not_true,p1,x,aK,q'];rfl
end Go.Av
namespace Go.Av
open Go.Nt
theorem MG.uni {a b:List En} (ha:MG a) (hb:MG b):MG (uni a b):=⟨gT ha.1 hb.1,fun e he=>by
 rcases kH _ a b (Nat.le_refl _) e he with q | q
 ·exact ha.2 e q
 ·exact hb.2 e q⟩
theorem zBA (a b:List En):(uni a b).length<=a.length+b.length:=kI _ a b (Nat.le_refl _)
theorem AB {a b:List En} (ha:MG a) (hb:MG b) (h:a.length+b.length<=1000):mK a b=0/\wB a b=uni a b:=by
 have h0:mK a b=0:=by
  unfold mK
  have:=zBA a b
  rw[if_pos ⟨ha.ok (by omega),hb.ok (by omega)⟩,if_pos (by omega)]
 exact⟨h0,by unfold wB;rw[if_pos h0]⟩
end Go.Av
namespace Go.Av
open Go.Proofs Go.Shelf Go.RowKit
def rnB:Ren:=⟨fun i=>match i with | 166=>33 | 240=>64 | 276=>97 | 169=>37 | 170=>36 | _=>0,fun i=>match i with | 72=>73 | 70=>71 | 37=>40 | 164=>127 | 127=>110 | i=>i,fun i=>i⟩
theorem zDY:Lays.n166 Tryz.prog rnB:=by constructor<;>first | kernel_rfl | (intro w;kernel_rfl)
theorem zDX:Lays.n169 Tryz.prog rnB:=by constructor<;>first | kernel_rfl | (intro w;kernel_rfl)
theorem zDW:Lays.n170 Tryz.prog rnB:=by constructor<;>first | kernel_rfl | (intro w;kernel_rfl)
theorem xB72:Builder.X72 Tryz.prog rnB:=by constructor<;>kernel_rfl
theorem xB:Builder.Extra Tryz.prog rnB:={ xB72 with t5:=by kernel_rfl,a5:=fun w=>by kernel_rfl,z5:=fun w=>by kernel_rfl,v5:=fun w=>by kernel_rfl,infoByte:=by kernel_rfl,cellsByte:=by kernel_rfl,sizeByte:=by kernel_rfl,neB5:=by decide }
def Bld (B b:Nat) (s:List UInt8) (w:World):Prop:=Lib.IsBuilderF 73 5 B b (Lib.byteCells s) w
theorem Bld.lt {B b:Nat} {s:List UInt8} {w:World} (h:Bld B b s w):b < w.heap.size:=by
 rcases h with ⟨_,v,h2,_⟩ | ⟨_,v,h2,_⟩<;>exact (Array.getElem?_eq_some_iff.1 h2).1
theorem Bld.keep {B b:Nat} {s:List UInt8} {w w':World} (h:Bld B b s w) (hb:∀ k,k < w.heap.size->w'.heap[k]?=w.heap[k]?):Bld B b s w':=by
 have key:∀ p,Lib.BuilderAtF 73 5 B b p (Lib.byteCells s) w->Lib.BuilderAtF 73 5 B b p (Lib.byteCells s) w':=by
  rintro p ⟨h1,v,h2,⟨h3,h4⟩,h5⟩
  refine⟨h1,v,(hb b (Array.getElem?_eq_some_iff.1 h2).1).trans h2,⟨h3,?_⟩,h5⟩;rcases h4 with h4 | ⟨g,cap,cur,fz,q1,q2,q3,q4⟩
  ·exact .inl h4
  ·exact .inr ⟨g,cap,cur,fz,q1,q2,(hb g (Array.getElem?_eq_some_iff.1 q3).1).trans q3,q4⟩
 exact h.imp (key _) (key _)
theorem Bld.write {B b:Nat} {s t:List UInt8} {w:World} (h:Bld B b s w) (hl:s.length+t.length<=140737488355328) (hB:B<=w.heap.size) :
  Calls Tryz.prog 33 #[.pointer (some ⟨b,0,none⟩),.string ⟨t.toArray⟩] w fun e w'=>e=.returned (.tuple #[.int .i64 (t.length:Int),.nilIface])/\Bld B b (s++t) w'/\Below B w w'/\Lib.OthersKept 5 (some b) w w':=by
 refine (Any.Builder_WriteString_k zDY xB B b (Lib.byteCells s) ⟨t.toArray⟩ w h (by rw[Lib.byteCells_length];simpa [ByteArray.size] using hl) hB).mono ?_
 rintro e w' ⟨rfl,h1,h2,h3⟩
 refine⟨by simp [ByteArray.size],.inr ?_,h2,h3⟩;rw[Lib.strCells_eq,<- Lib.byteCells_append] at h1;exact h1
theorem Bld.writeB {B b:Nat} {s:List UInt8} {w:World} (h:Bld B b s w) (x:ByteArray) (hl:s.length+x.data.toList.length<=140737488355328) (hB:B<=w.heap.size) :
  Calls Tryz.prog 33 #[.pointer (some ⟨b,0,none⟩),.string x] w fun e w'=>(∃ n:Int,e=.returned (.tuple #[.int .i64 n,.nilIface]))/\Bld B b (s++x.data.toList) w'/\Below B w w'/\Lib.OthersKept 5 (some b) w w':=by
 refine (Bld.write (t:=x.data.toList) h hl hB).mono ?_
 rintro e w' ⟨rfl,h1,h2,h3⟩
 exact⟨⟨_,rfl⟩,h1,h2,h3⟩
theorem Bld.len {B b:Nat} {s:List UInt8} {w:World} (h:Bld B b s w) :
  Calls Tryz.prog 36 #[.pointer (some ⟨b,0,none⟩)] w fun e w'=>e=.returned (.int .i64 (s.length:Int))/\w=w':=by
 refine (Any.Builder_Len_f zDW B b (Lib.byteCells s) w h).mono ?_
 rintro e w' ⟨rfl,rfl⟩
 rw[Lib.byteCells_length];exact⟨rfl,rfl⟩
theorem Bld.str {B b:Nat} {s:List UInt8} {w:World} (h:Bld B b s w) (hB:B<=w.heap.size) :
  Calls Tryz.prog 37 #[.pointer (some ⟨b,0,none⟩)] w fun e w'=>e=.returned (.string ⟨s.toArray⟩)/\Below B w w':=by
 refine (Any.Builder_String_any_f zDX xB B b s w h hB).mono ?_
 rintro e w' ⟨rfl,_,h2⟩
 exact⟨rfl,h2⟩
theorem Bld.fresh {w:World}:Bld w.heap.size w.heap.size [] (w.alloc (.cells #[.pointer none,.slice none 0 0] 73)):=by
 refine .inl ⟨Nat.le_refl _,.slice none 0 0,heap_alloc_new w _,⟨rfl,.inl ⟨rfl,rfl⟩⟩,?_⟩
 simp [Value.ownBlock]
theorem tQ {f:FuncId} {args:List AV} {r:AV} (h:G0 f args []=some (r,[])) (hf:∀ vs w,(callFunc f vs).run Tryz.prog w=.ok (.enter f vs) w) {S0:Nat->Nat->Prop} {w:World} {vs:Array Value} (hS:∀ b o,S0 b o->b < w.heap.size) (hg:lM S0 w)
  (ha:aL (aQ (cx0 (fun _=>0) (fun _=>0) S0 w 0) aS) args vs.toList) :
  Calls Tryz.prog f vs w fun e w'=>∃ v β bs S,e=.returned v/\aQ (cx0 β bs S w' 0) aS r v/\Below w.heap.size w w':=by
 have hent:pE [] (fun _=>.stab) (fun _=>0) (fun _=>0) S0 (fun _=>none) w:=⟨⟨fun i c hi=>(by simp at hi),fun i hi=>(by simp at hi)⟩,fun b o hs=>⟨hS b o hs,fun i hi=>(by simp at hi),fun k hk=>(by cases hk)⟩,fun b k hk=>(by cases hk),fun b t k hk=>(by cases hk),hg⟩
 rcases IX _ _ _ _ _ h with ⟨_,hs⟩ | hx
 ·refine (hs _ _ _ _ _ _ _ hent ha).mono ?_
  rintro e w' ⟨v,kd',β',bs',rfl,A⟩
  exact⟨v,β',bs',_,rfl,A.rep,⟨A.os,A.tape,A.output,A.size,fun k hk=>A.frame k hk (fun i hi=>by simp at hi) rfl⟩⟩
 ·obtain⟨v,w',_,_,_,h1,_⟩:=hx _ _ _ _ _ _ _ hent ha
  rw[hf] at h1;cases h1
end Go.Av
namespace Go.Av
open Go.Proofs Go.Shelf Go.RowKit Go.Nt
set_option maxHeartbeats 4000000
theorem zFT {W w1:World} (hb:Below W.heap.size W w1):(∀ b o,b < W.heap.size->w1.cell? ⟨b,o,none⟩=W.cell? ⟨b,o,none⟩)/\(∀ b o,b < W.heap.size->w1.frozen? ⟨b,o,none⟩=W.frozen? ⟨b,o,none⟩):=
 ⟨fun b o h=>hb.cell (p:=⟨b,o,none⟩) h,fun b o h=>hb.frozen (p:=⟨b,o,none⟩) h⟩
theorem at8 {W:World} {k T:Nat} {c0 c1 c2 c3 c4 c5 c6 c7:Value} (h:W.heap[k]?=some (.cells #[c0,c1,c2,c3,c4,c5,c6,c7] T (0,0))) :
  W.cell? ⟨k,0,none⟩=some c0/\W.cell? ⟨k,1,none⟩=some c1/\W.cell? ⟨k,2,none⟩=some c2/\W.cell? ⟨k,3,none⟩=some c3/\W.cell? ⟨k,4,none⟩=some c4/\W.cell? ⟨k,5,none⟩=some c5/\W.cell? ⟨k,6,none⟩=some c6/\W.cell? ⟨k,7,none⟩=some c7:=by
 refine⟨?_,?_,?_,?_,?_,?_,?_,?_⟩<;>rw[Lib.cell_of_heap h]<;>rfl
theorem LH {t e n:Nat} {cs:Array Value} {i:Int} {v:Value} {W:World} (hu:Tryz.prog.underlying t=some (.array n e)) (ha:∀ W,(isAgg e).run Tryz.prog W=.ok false W) (hz:∀ W,(Go.sizeOf e).run Tryz.prog W=.ok 1 W) (h0:0<=i) (hn:i < n) (hv:cs[i.toNat]?=some v) :
  (Instr.index t (.agg cs) (.int .i64 i)).run Tryz.prog W=.ok v W:=by
 simp [Instr.index,asIntOf,run_underlying hu,asAgg,h0,hn,part,ha,hz,hv]
theorem UT (w:World):w.drew.heap=w.heap:=rfl
theorem zEA {W X:World} {k T:Nat} {c0 c1 c2 c3 c4 c5 c6 c7:Value} (hx:X.heap[k]?=some (.cells #[c0,c1,c2,c3,c4,c5,c6,c7] T (0,0))) (hW:W.heap[k]?=X.heap[k]?) :
  W.cell? ⟨k,2,none⟩=some c2/\W.cell? ⟨k,3,none⟩=some c3/\W.cell? ⟨k,4,none⟩=some c4/\W.cell? ⟨k,5,none⟩=some c5/\W.cell? ⟨k,7,none⟩=some c7:=by
 obtain⟨_,_,h2,h3,h4,h5,_,h7⟩:=at8 (hW.trans hx);exact⟨h2,h3,h4,h5,h7⟩
theorem WF (w:World):Calls Tryz.prog 67 #[] w fun e w'=>e=.returned (.agg #[.string ⟨#[104,117,109,97,110]⟩,.string ⟨#[97,108,105,103,110,101,100]⟩,.string ⟨#[109,97,99,104,105,110,101]⟩])/\Below w.heap.size w w':=by
 go_enter Tryz.func67,Tryz.ntmps67
 go_wp2
 exact bodyPost_ret (v:=.agg #[.string ⟨#[104,117,109,97,110]⟩,.string ⟨#[97,108,105,103,110,101,100]⟩,.string ⟨#[109,97,99,104,105,110,101]⟩]) (by simp [results,Tryz.results67,go_sem]) rfl ⟨rfl,((Below.refl _ _).alloc (Nat.le_refl _) _)⟩
def vsF (t0 t1 p n a j t6 q:List UInt8):Nat->List UInt8
 | 0=>t0 | 1=>t1 | 2=>p | 3=>n | 4=>a | 5=>j | 6=>t6 | _=>q
def oM (f:Nat->List UInt8):Nat->List Bs
 | 0=>[]
 | k+1=>oM f k++lnE k (f k)
theorem X0 (w:World):Calls Tryz.prog 68 #[] w fun e w'=>e=.returned (.agg #[.string ⟨#[115,111,117,114,99,101]⟩,.string ⟨#[116,97,114,103,101,116]⟩,.string ⟨#[112,114,101,118,105,111,117,115]⟩,.string ⟨#[110,101,120,116]⟩,.string ⟨#[97,117,116,104,111,114]⟩,.string ⟨#[112,114,111,106,101,99,116]⟩,.string ⟨#[99,114,101,97,116,101,100]⟩,.string ⟨#[111,114,105,103,105,110]⟩])/\Below w.heap.size w w':=by
 go_enter Tryz.func68,Tryz.ntmps68
 go_wp2
 exact bodyPost_ret (v:=.agg #[.string ⟨#[115,111,117,114,99,101]⟩,.string ⟨#[116,97,114,103,101,116]⟩,.string ⟨#[112,114,101,118,105,111,117,115]⟩,.string ⟨#[110,101,120,116]⟩,.string ⟨#[97,117,116,104,111,114]⟩,.string ⟨#[112,114,111,106,101,99,116]⟩,.string ⟨#[99,114,101,97,116,101,100]⟩,.string ⟨#[111,114,105,103,105,110]⟩]) (by simp [results,Tryz.results68,go_sem]) rfl ⟨rfl,((Below.refl _ _).alloc (Nat.le_refl _) _)⟩
def vls (t0 t1 p n a j t6 q:List UInt8):Obj:=.cells #[.string ⟨t0.toArray⟩,.string ⟨t1.toArray⟩,.string ⟨p.toArray⟩,.string ⟨n.toArray⟩,.string ⟨a.toArray⟩,.string ⟨j.toArray⟩,.string ⟨t6.toArray⟩,.string ⟨q.toArray⟩] 108 (0,0)
theorem VK (B b:Nat) (s:List UInt8) (w:World) (h:Bld B b s w) (hB:B<=w.heap.size) (v0 v1:Value) (e:En) (t0 t1 t6 q:List UInt8) (hq:orn.getD (e.o - 1).toNat []=q)
  (h0:∀ W:World,Below B w W->Calls Tryz.prog 66 #[v0] W fun e w'=>e=.returned (.tuple #[.string ⟨t0.toArray⟩,.int .i64 0])/\Below W.heap.size W w')
  (h1:∀ W:World,Below B w W->Calls Tryz.prog 66 #[v1] W fun e w'=>e=.returned (.tuple #[.string ⟨t1.toArray⟩,.int .i64 0])/\Below W.heap.size W w')
  (h6:e.c≠0->∀ W:World,Below B w W->Calls Tryz.prog 34 #[.int .i64 e.c] W fun e w'=>e=.returned (.string ⟨t6.toArray⟩)/\Below W.heap.size W w') (h6z:e.c=0->t6=[]) (o1:1<=e.o) (o3:e.o<=3) (hs1:s.length<=100000000) (hszv:∀ i,(vsF t0 t1 e.p e.n e.a e.j t6 q i).length<=1000000) (hszl:∀ i,i<=8->(jn (oM (vsF t0 t1 e.p e.n e.a e.j t6 q) i)).length<=100000000) :
  Calls Tryz.prog 35 #[.pointer (some ⟨b,0,none⟩),.agg #[v0,v1,.string ⟨e.p.toArray⟩,.string ⟨e.n.toArray⟩,.string ⟨e.a.toArray⟩,.string ⟨e.j.toArray⟩,.int .i64 e.c,.int .i64 e.o]] w fun r w'=>r=.returned (.tuple #[])/\Bld B b (s++jn (oM (vsF t0 t1 e.p e.n e.a e.j t6 q) 8)) w'/\Below B w w':=by
 obtain⟨S,p,n,a,j,c,o,hS⟩:∃ S p n a j c o,e=⟨S.1,S.2,p,n,a,j,c,o⟩:=⟨(e.S,e.T),e.p,e.n,e.a,e.j,e.c,e.o,rfl⟩
 subst hS;simp only[] at h6 h6z o1 o3 hq hszv hszl;have HQ:=Lib.hid hq
 clear hq
 go_enter Tryz.func35,Tryz.ntmps35
 go_upto_if 26 with (first | (go_at_call 66;(with_reducible refine (h0 _ ((Below.refl _ _).alloc hB _)).mono ?_);rintro e w1 ⟨rfl,hb1⟩;have hx1:=(hb1.block w.heap.size (by simp)).trans (heap_alloc_new w _);obtain⟨x10,x11,x12,x13,x14,x15,x16,x17⟩:=at8 hx1;have hz1:w.heap.size+1<=w1.heap.size:=by (have:=hb1.size;simp at this;omega)) | (go_at_call 66;(with_reducible refine (h1 _ (((Below.refl _ _).alloc hB _).trans (hb1.mono (by simp;omega)))).mono ?_);rintro e w2 ⟨rfl,hb2⟩;have hx2:=(hb2.block w.heap.size (by omega)).trans hx1;obtain⟨x20,x21,x22,x23,x24,x25,x26,x27⟩:=at8 hx2;have hz2:=hb2.size))
 go_cut [8] (fun s8 wx=>s8=.string ⟨t6.toArray⟩/\wx.heap[w.heap.size]?=some (.cells #[v0,v1,.string ⟨p.toArray⟩,.string ⟨n.toArray⟩,.string ⟨a.toArray⟩,.string ⟨j.toArray⟩,.int .i64 c,.int .i64 o] 25 (0,0))/\Below w.heap.size w wx/\w.heap.size+1<=wx.heap.size)
 case first =>
  by_cases hc:c=0
  ·have h6:=h6z hc
   subst h6;subst hc
   go_wp2
   go_meet
   exact⟨rfl,hx2,⟨hb2.os.trans hb1.os,hb2.tape.trans hb1.tape,hb2.output.trans hb1.output,by omega,fun k hk=>(hb2.block k (by omega)).trans ((hb1.block k (by simp;omega)).trans (Below.heap_alloc w _ k hk))⟩,by omega⟩
  ·have h6:=h6 hc
   go_wp2_with (go_at_call 34;(with_reducible refine (h6 _ ((((Below.refl _ _).alloc hB _).trans (hb1.mono (by simp;omega))).trans (hb2.mono (by omega)))).mono ?_);rintro e w3 ⟨rfl,hb3⟩;have hx3:=(hb3.block w.heap.size (by omega)).trans hx2;have hz3:=hb3.size)
   go_meet
   exact⟨rfl,hx3,⟨hb3.os.trans (hb2.os.trans hb1.os),hb3.tape.trans (hb2.tape.trans hb1.tape),hb3.output.trans (hb2.output.trans hb1.output),by omega,fun k hk=>(hb3.block k (by omega)).trans ((hb2.block k (by omega)).trans ((hb1.block k (by simp;omega)).trans (Below.heap_alloc w _ k hk)))⟩,by omega⟩
 case rest =>
  obtain⟨rfl,hx,hb,hz⟩:=hcut
  go_upto_region 6 with fail
  go_cut [9] (fun s9 wy=>∃ k:Nat,s9=.pointer (some ⟨k,0,none⟩)/\w.heap.size<=k/\wy.heap[k]?=some (vls t0 t1 p n a j t6 q)/\Below w.heap.size w wy)
  case first =>
   obtain⟨y0,y1,y2,y3,y4,y5,y6,y7⟩:=at8 hx;have hix:∀ W,(Instr.index 106 (.agg #[.string ⟨#[104,117,109,97,110]⟩,.string ⟨#[97,108,105,103,110,101,100]⟩,.string ⟨#[109,97,99,104,105,110,101]⟩]) (.int .i64 (o - 1))).run Tryz.prog W=.ok (.string ⟨q.toArray⟩) W:=fun W=>by
    rw[<- HQ.out];have ho:o=1\/o=2\/o=3:=by omega
    rcases ho with rfl | rfl | rfl<;>exact LH (n:=3) (e:=9) (by kernel_rfl) (fun W=>by kernel_rfl) (fun W=>by kernel_rfl) (by decide) (by decide) rfl
   have hw1:IntKind.i64.wrap (o - 1)=o - 1:=IntWalk.i64_in _ (by omega)
   go_region_held3 (fun w'=>w'.cell? ⟨w.heap.size,2,none⟩=some (.string ⟨p.toArray⟩)/\w'.cell? ⟨w.heap.size,3,none⟩=some (.string ⟨n.toArray⟩)/\w'.cell? ⟨w.heap.size,4,none⟩=some (.string ⟨a.toArray⟩)/\w'.cell? ⟨w.heap.size,5,none⟩=some (.string ⟨j.toArray⟩)/\w'.cell? ⟨w.heap.size,7,none⟩=some (.int .i64 o))
    ((refine zEA hx ?_;first | (simp (disch:=(first | omega | (simp;omega) | (have:=hb4.size;simp at this ⊢;omega))) only [UT,Below.heap_setCell,Below.heap_alloc];done) | (simp (disch:=(first | omega | (simp;omega) | (have:=hb4.size;simp at this ⊢;omega))) only [UT,Below.heap_setCell,Below.heap_alloc,hb4.block];done)))
    (first | (go_at_call 67;refine (WF _).mono ?_;rintro e w4 ⟨rfl,hb4⟩;obtain⟨hc4,hf4⟩:=zFT hb4) | simp only[hix])
   all_goals go_wp2_with fail
   all_goals go_meet
   ·exact⟨_,rfl,by have:=hb4.size;simp at this;omega,heap_alloc_new _ _,((hb.drew).trans (hb4.mono (by simp;omega))).alloc (by have:=hb4.size;simp at this;omega) _⟩
   ·exact⟨_,rfl,by have:=hb4.size;simp at this;omega,heap_alloc_new _ _,((hb.drew).trans (hb4.mono (by simp;omega))).alloc (by have:=hb4.size;simp at this;omega) _⟩
   ·have hx4:=(hb4.block wc.heap.size (by simp)).trans (heap_alloc_new wc _)
    exact⟨_,rfl,by omega,by simp [World.setCell,Array.getElem?_modify,hx4,vls],((((((((((hb.alloc (by omega) _).drew.trans (hb4.mono (by simp;omega))).setCell (by simp;omega) _).setCell (by simp;omega) _).setCell (by simp;omega) _).setCell (by simp;omega) _).setCell (by simp;omega) _).setCell (by simp;omega) _).setCell (by simp;omega) _).setCell (by simp;omega) _)⟩
  case rest =>
   obtain⟨k,rfl,hk,hv,hbw⟩:=hcut;have hks:=(Array.getElem?_eq_some_iff.1 hv).1;have HKB:=Lib.hid (show ¬ k=b from fun e=>by have:=h.lt;omega)
   go_wp2_with (go_at_call 68;refine (X0 _).mono ?_;rintro e w5 ⟨rfl,hb5⟩)
   have hv5:=(hb5.block k hks).trans hv;have h5:Bld B b s w5:=h.keep (fun k hk=>(hb5.block k (by have:=hbw.size;omega)).trans (hbw.block k hk));have hbw5:Below B w w5:=(hbw.mono hB).trans (hb5.mono (by have:=hbw.size;omega));have hks5:k < w5.heap.size:=by have:=hb5.size;omega
   clear h0 h1 h6 h6z hx hb hz hbw hb5 hv hks h
   go_loopg [48] 8 (fun g s48 wx=>∃ i:Nat,i+g=8/\s48=.int .i64 (i:Int)/\wx.heap[k]?=some (vls t0 t1 p n a j t6 q)/\Bld B b (s++jn (oM (vsF t0 t1 p n a j t6 q) i)) wx/\Below B w wx/\k < wx.heap.size)
   case atStart=>exact⟨0,rfl,rfl,hv5,by simpa [oM,jn] using h5,hbw5,hks5⟩
   case round =>
    obtain⟨i,hi,rfl,hv,hB',hbw',hks⟩:=hrel
    cases gk with
    | zero =>
     obtain rfl:i=8:=by omega
     go_wp2
     go_end0
     exact⟨rfl,hB',hbw'⟩
    | succ g =>
     have hi8:i < 8:=by omega
     have hi0:(0:Int)<=(i:Int):=by omega
     have hi1:(i:Int) < 8:=by omega
     obtain⟨nm,hnm⟩:∃ nm,fnm.getD i []=nm:=⟨_,rfl⟩
     have hix:∀ W,(Instr.index 108 (.agg #[.string ⟨#[115,111,117,114,99,101]⟩,.string ⟨#[116,97,114,103,101,116]⟩,.string ⟨#[112,114,101,118,105,111,117,115]⟩,.string ⟨#[110,101,120,116]⟩,.string ⟨#[97,117,116,104,111,114]⟩,.string ⟨#[112,114,111,106,101,99,116]⟩,.string ⟨#[99,114,101,97,116,101,100]⟩,.string ⟨#[111,114,105,103,105,110]⟩]) (.int .i64 (i:Int))).run Tryz.prog W=.ok (.string ⟨nm.toArray⟩) W:=fun W=>by
      refine LH (n:=8) (e:=9) (by kernel_rfl) (fun W=>by kernel_rfl) (fun W=>by kernel_rfl) hi0 hi1 ?_;rw[<- hnm,Int.toNat_natCast]
      match i,hi8 with
      | 0,_ | 1,_ | 2,_ | 3,_ | 4,_ | 5,_ | 6,_ | 7,_=>rfl
     have hc:wr.cell? ⟨k,i,none⟩=some (.string ⟨(vsF t0 t1 p n a j t6 q i).toArray⟩):=by
      rw[Lib.cell_of_heap hv]
      match i,hi8 with
      | 0,_ | 1,_ | 2,_ | 3,_ | 4,_ | 5,_ | 6,_ | 7,_=>rfl
     have hszl':=hszl i (by omega);have hnl:nm.length<=8:=by
      rw[<- hnm]
      match i,hi8 with
      | 0,_ | 1,_ | 2,_ | 3,_ | 4,_ | 5,_ | 6,_ | 7,_=>decide
     have HL:=Lib.hid (show oM (vsF t0 t1 p n a j t6 q) (i+1)=oM (vsF t0 t1 p n a j t6 q) i++lnE i (vsF t0 t1 p n a j t6 q i) from rfl);have HN:=Lib.hid hnm
     clear hnm
     have hsz:=hszv i;generalize vsF t0 t1 p n a j t6 q i=v at hc HL hsz;by_cases hv0:v=[]
     ·subst hv0
      by_cases hi2:2<=i
      ·have hi2':(2:Int)<=(i:Int):=by omega
       go_wp2_with fail
       go_roundg g
       case measure=>omega
       case rel =>
        refine⟨i+1,by omega,by go_num,hv,?_,hbw',hks⟩;rw[HL.out,lnE,if_pos ⟨hi2,rfl⟩,append_nil];exact hB'
      ·have hi2':(i:Int) < 2:=by omega
       go_wp2_with (go_at_call 33;refine (hB'.writeB _ (by simp;omega) (by omega)).mono ?_;rintro e w6 ⟨⟨m,rfl⟩,h6,hb6,ho6⟩)
       go_roundg g
       case measure=>omega
       case rel =>
        have hv6:w6.heap[k]?=some (vls t0 t1 p n a j t6 q):=ho6 k _ hv (by simp;exact HKB.out) (by intro c fz hh;cases hh);refine⟨i+1,by omega,by go_num,hv6,?_,hbw'.trans hb6,by have:=hb6.size;omega⟩;rw[HL.out,lnE,if_neg (by simp_all)];rw[show s++jn (oM (vsF t0 t1 p n a j t6 q) i++[lnK i []])=(s++jn (oM (vsF t0 t1 p n a j t6 q) i))++(nm++32 :: ([]++[10])) by simp [jn,lnK,<- HN.out]];simpa using h6
     ·go_wp2_with (go_at_call 33;refine (hB'.writeB _ (by simp;omega) (by omega)).mono ?_;rintro e w6 ⟨⟨m,rfl⟩,h6,hb6,ho6⟩)
      go_roundg g
      case measure=>omega
      case rel =>
       have hv6:w6.heap[k]?=some (vls t0 t1 p n a j t6 q):=ho6 k _ hv (by simp;exact HKB.out) (by intro c fz hh;cases hh);refine⟨i+1,by omega,by go_num,hv6,?_,hbw'.trans hb6,by have:=hb6.size;omega⟩;rw[HL.out,lnE,if_neg (by simp_all)];rw[show s++jn (oM (vsF t0 t1 p n a j t6 q) i++[lnK i v])=(s++jn (oM (vsF t0 t1 p n a j t6 q) i))++(nm++32 :: (v++[10])) by simp [jn,lnK,<- HN.out]];simpa using h6
end Go.Av
namespace Go.Av
open Go.Proofs Go.Shelf Go.RowKit Go.Nt
set_option maxHeartbeats 4000000
def txK (m:List En) (i:Nat):List UInt8:=hdT m.length++10 :: (m.take i).flatMap fun e=>jn (i6 e)
structure RowX (w:World) (bb off:Nat) (e:En) (v0 v1:Value) (t6:List UInt8):Prop where
 c0:∀ W:World,Below w.heap.size w W->W.cell? ⟨bb,off,none⟩=some v0
 c1:∀ W:World,Below w.heap.size w W->W.cell? ⟨bb,off+1,none⟩=some v1
 c2:∀ W:World,Below w.heap.size w W->W.cell? ⟨bb,off+2,none⟩=some (.string ⟨e.p.toArray⟩)
 c3:∀ W:World,Below w.heap.size w W->W.cell? ⟨bb,off+3,none⟩=some (.string ⟨e.n.toArray⟩)
 c4:∀ W:World,Below w.heap.size w W->W.cell? ⟨bb,off+4,none⟩=some (.string ⟨e.a.toArray⟩)
 c5:∀ W:World,Below w.heap.size w W->W.cell? ⟨bb,off+5,none⟩=some (.string ⟨e.j.toArray⟩)
 c6:∀ W:World,Below w.heap.size w W->W.cell? ⟨bb,off+6,none⟩=some (.int .i64 e.c)
 c7:∀ W:World,Below w.heap.size w W->W.cell? ⟨bb,off+7,none⟩=some (.int .i64 e.o)
 f0:∀ W:World,Below w.heap.size w W->Calls Tryz.prog 66 #[v0] W fun e' w'=>e'=.returned (.tuple #[.string ⟨(fmE e.S).toArray⟩,.int .i64 0])/\Below W.heap.size W w'
 f1:∀ W:World,Below w.heap.size w W->Calls Tryz.prog 66 #[v1] W fun e' w'=>e'=.returned (.tuple #[.string ⟨(fmE e.T).toArray⟩,.int .i64 0])/\Below W.heap.size W w'
 f6:e.c≠0->∀ W:World,Below w.heap.size w W->Calls Tryz.prog 34 #[.int .i64 e.c] W fun e' w'=>e'=.returned (.string ⟨t6.toArray⟩)/\Below W.heap.size W w'
 z6:e.c=0->t6=[]
 e6:t6=vlE e 6
 s0:∃ a l k,v0=.slice a l k
 s1:∃ a l k,v1=.slice a l k
 o1:1<=e.o
 o3:e.o<=3
 sz:∀ i,(vsF (fmE e.S) (fmE e.T) e.p e.n e.a e.j t6 (orn.getD (e.o - 1).toNat []) i).length<=1000000
 sl:∀ i,i<=8->(jn (oM (vsF (fmE e.S) (fmE e.T) e.p e.n e.a e.j t6 (orn.getD (e.o - 1).toNat [])) i)).length<=100000000
theorem TU {m:List En} {i:Nat} {e:En} (h:m[i]?=some e):txK m (i+1)=txK m i++jn (i6 e):=by
 unfold txK;rw[take_add_one,h,flatMap_append,append_assoc];simp
theorem Q8 {e:En} {t6:List UInt8} (h:t6=vlE e 6):oM (vsF (fmE e.S) (fmE e.T) e.p e.n e.a e.j t6 (orn.getD (e.o - 1).toNat [])) 8=i6 e:=by
 subst h;rfl
theorem UR (m:List En) (w:World) (v:Value) (A:Option Addr) (bb oo c:Nat) (hv:v=.slice A m.length c) (hA:m≠[]->A=some ⟨bb,oo,none⟩) (hcap:m.length<=c) (hlen:m.length<=1000) (htl:(txM m).length<=1048576) (htk:∀ i,(txK m i).length<=100000000)
  (h0:∀ W:World,Below w.heap.size w W->Calls Tryz.prog 32 #[v] W fun e w'=>e=.returned (.int .i64 0)/\Below W.heap.size W w')
  (h1:∀ W:World,Below w.heap.size w W->Calls Tryz.prog 34 #[.int .i64 (m.length:Int)] W fun e w'=>e=.returned (.string ⟨(dcN m.length).toArray⟩)/\Below W.heap.size W w')
  (hr:∀ (i:Nat) (e:En),m[i]?=some e->∃ v0 v1 t6,RowX w bb (oo+i*8) e v0 v1 t6) :
  Calls Tryz.prog 17 #[v] w fun r w'=>r=.returned (.tuple #[.string ⟨(txM m).toArray⟩,.int .i64 0])/\Below w.heap.size w w':=by
 subst hv;have HTL:=Lib.hid htl;have HTK:=Lib.hid htk
 clear htl htk
 have hd:(dcN m.length).length<=10:=(xQ 9 m.length (by omega)).2.2.2.1
 go_enter Tryz.func17,Tryz.ntmps17
 go_wp2_with (first | (go_at_call 32;(with_reducible refine (h0 _ (Below.refl _ _)).mono ?_);rintro e w1 ⟨rfl,hb1⟩) | (go_at_call 34;(with_reducible refine (h1 _ (hb1.trans ((Below.refl _ _).alloc hb1.size _))).mono ?_);rintro e w2 ⟨rfl,hb2⟩;have hB2:=Bld.keep (Bld.fresh (w:=w1)) hb2.block) | (go_at_call 33;refine (hB2.writeB _ (by simp;omega) (by have:=hb2.size;simp at this;omega)).mono ?_;rintro e w3 ⟨⟨k0,rfl⟩,hB3,hb3,_⟩))
 have hb13:Below w1.heap.size w1 w3:=(((Below.refl _ _).alloc (Nat.le_refl _) _).trans (hb2.mono (by simp))).trans hb3;have hB3':Bld w1.heap.size w1.heap.size (txK m 0) w3:=by simpa [txK,hdT,hdB] using hB3
 clear h0 h1 hB2 hb2 hB3 hb3
 go_loopg [21] m.length (fun g s21 wx=>∃ i:Nat,i+g=m.length/\s21=.int .i64 (i:Int)/\Bld w1.heap.size w1.heap.size (txK m i) wx/\Below w1.heap.size w1 wx)
 case atStart=>exact⟨0,by omega,rfl,hB3',hb13⟩
 case round =>
  obtain⟨i,hi,rfl,hB,hbx⟩:=hrel
  cases gk with
  | zero =>
   obtain rfl:i=m.length:=by omega
   have ht:txK m m.length=txM m:=by rw[EB,txK,take_length]
   rw[ht] at hB;have hlen':=hB.len;obtain⟨L,hL⟩:∃ L,(txM m).length=L:=⟨_,rfl⟩
   rw[hL] at hlen';have hLi:(L:Int)<=1048576:=by have:=HTL.out;omega
   have hst:=hB.str hbx.size;obtain⟨tx,htx⟩:∃ tx,(txM m).toArray=tx:=⟨_,rfl⟩
   rw[htx] at hst;have HTX:=Lib.hid htx
   clear ht hL hi htx
   go_wp2_with (first | (go_at_call 36;refine hlen'.mono ?_;rintro e w' ⟨rfl,rfl⟩) | (go_at_call 37;refine hst.mono ?_;rintro e w4 ⟨rfl,hb4⟩))
   go_ret2
   exact⟨by rw[HTX.out];rfl,hb1.trans ((hbx.mono hb1.size).trans (hb4.mono hb1.size))⟩
  | succ g =>
   have him:i < m.length:=by omega
   have hg:m[i]?=some m[i]:=getElem?_eq_getElem him;obtain⟨v0,v1,t6,hx⟩:=hr i _ hg
   obtain rfl:=hA (by intro q;rw[q] at him;simp at him)
   generalize m[i]=e at hx hg;obtain⟨a0,l0,k0',rfl⟩:=hx.s0;obtain⟨a1,l1,k1',rfl⟩:=hx.s1;have HG:=Lib.hid hg
   clear hg
   have hwr:Below w.heap.size w wr:=hb1.trans (hbx.mono hb1.size);have hi0:(0:Int)<=(i:Int):=by omega
   have hi1:(i:Int) < (m.length:Int):=by omega
   have c0:=hx.c0 wr hwr;have c1:=hx.c1 wr hwr;have c2:=hx.c2 wr hwr;have c3:=hx.c3 wr hwr;have c4:=hx.c4 wr hwr;have c5:=hx.c5 wr hwr;have c6:=hx.c6 wr hwr;have c7:=hx.c7 wr hwr;have hsl:(txK m i).length<=100000000:=HTK.out i;have HX:=Lib.hid hx
   go_wp2_with ((go_at_call 35;refine (VK w1.heap.size w1.heap.size (txK m i) _ (hB.keep fun k hk=>Below.heap_alloc _ _ k hk) (by have:=hbx.size;simp;omega) _ _ e _ _ t6 _ rfl (fun W hW=>HX.out.f0 W (hwr.trans (((Below.refl _ _).alloc hwr.size _).trans (hW.mono hb1.size)))) (fun W hW=>HX.out.f1 W (hwr.trans (((Below.refl _ _).alloc hwr.size _).trans (hW.mono hb1.size)))) (fun hz W hW=>HX.out.f6 hz W (hwr.trans (((Below.refl _ _).alloc hwr.size _).trans (hW.mono hb1.size)))) HX.out.z6 HX.out.o1 HX.out.o3 hsl HX.out.sz HX.out.sl).mono ?_;rintro r w5 ⟨rfl,hB5,hb5⟩))
   go_roundg g
   case measure=>omega
   case rel =>
    refine⟨i+1,by omega,by go_num,?_,hbx.trans (((Below.refl _ _).alloc hbx.size _).trans hb5)⟩;rw[TU HG.out,<- Q8 HX.out.e6];exact hB5
theorem zEN (v:Value) (w:World) (k:Int) (hk:k≠0) (h0:Calls Tryz.prog 32 #[v] w fun e w'=>e=.returned (.int .i64 k)/\Below w.heap.size w w') :
  Calls Tryz.prog 17 #[v] w fun r w'=>r=.returned (.tuple #[.string ⟨#[]⟩,.int .i64 k])/\Below w.heap.size w w':=by
 go_enter Tryz.func17,Tryz.ntmps17
 go_wp2_with ((go_at_call 32;(with_reducible refine h0.mono ?_);rintro e w1 ⟨rfl,hb1⟩))
 go_ret2
 exact⟨rfl,hb1⟩
end Go.Av
namespace Go.Av
open Go.Nt
theorem kOrd (a b:Bs):G0 63 [.str a,.str b] []=some (.int .i64 (if a=b then 5 else if ltB b a=true then 11 else 0),[]):=by
 refine aA F63 rfl rfl rfl ?_;by_cases q:a=b
 ·subst q
  simp only[F63,go_sem,beq_self_eq_true]
 ·have q':(b == a)=false:=by simpa using fun h:b=a=>q h.symm
  rw[if_neg q]
  cases r:ltB b a<;>simp only[F63,go_sem,q',eC,r]
theorem OB {p:List En} {e:En} (h:vE e≠0):iL p e=vE e:=by unfold iL;rw[if_pos h]
theorem OD {e:En} (h:vE e=0):iL [] e=0:=by unfold iL;rw[if_neg (by simp [h])];rfl
theorem OC {p:List En} {e f:En} (h:vE e=0) (hp:p.getLast?=some f):iL p e=if aG f=aG e then 5 else if ltB (aG e) (aG f)=true then 11 else 0:=by
 unfold iL;rw[if_neg (by simp [h]),hp]
theorem JQ {m:List En} {j:Nat} {f:En} (h:m[j]?=some f):(m.take (j+1)).getLast?=some f:=by
 rw[take_add_one,h];simp
theorem KR {m:List En} {j:Nat} {f:En} (h:m[j]?=some f):m.take j++[f]=m.take (j+1):=by
 rw[take_add_one,h];rfl
theorem N1 (p:List En) (e:En) (r:List En):sW p (e :: r)=if iL p e≠0 then iL p e else sW (p++[e]) r:=rfl
theorem l32c (m:List En) (hl:m.length<=2000) (hB:∀ e∈m,BE e):∀ (k i:Nat),i+k=m.length ->
  (sW (m.take i) (m.drop i)=0->aC G0 nS (ST [(3,.str (lst m i)),(11,.bool false),(12,.sl .no 8 (ens m)),(13,.int .i64 m.length),(14,.int .i64 i)] [] [])=some (.ex 0,ST [(3,.str (lst m m.length)),(11,.bool false),(12,.sl .no 8 (ens m)),(13,.int .i64 m.length),(14,.int .i64 m.length),(15,.bool false)] [] [])) /\
  (sW (m.take i) (m.drop i)≠0->∃ l' M,aC G0 nS (ST [(3,.str (lst m i)),(11,.bool false),(12,.sl .no 8 (ens m)),(13,.int .i64 m.length),(14,.int .i64 i)] [] [])=some (.ret,ST l' M [])/\aE .any l' 2=.int .i64 (sW (m.take i) (m.drop i)))
 | 0,i,h=>by
  have:i=m.length:=by omega
  subst this;rw[drop_length];refine⟨fun _=>?_,fun q=>absurd rfl q⟩;rw[aB (L:=nS) rfl];simp only[go_sem,Int.lt_irrefl]
 | k+1,i,h=>by
  have hi:i < m.length:=by omega
  have h4:(i:Int) < (m.length:Int):=by omega
  have h0:(0:Int)<=(i:Int):=by omega
  have hw:=wI (i:=i) (by omega)
  have hg:m[i]?=some m[i]:=getElem?_eq_getElem hi;have hd:m.drop i=m[i] :: m.drop (i+1):=drop_eq_getElem_cons hi;have hBe:=hB _ (getElem_mem hi);generalize m[i]=e at hg hd hBe;have hr:=fI hg;have a1:=k23 e hBe;have a2:=k24 e hBe;simp only[aN] at a1 a2;have ih:=l32c m hl hB k (i+1) (by omega);rw[G5 hg] at ih;rw[hd,N1,KR hg];by_cases q:vE e=0
  case neg =>
   rw[OB q,if_pos q];refine⟨fun z=>absurd z q,fun _=>?_⟩;refine Exists.intro ?_ (Exists.intro ?_ (And.intro ?_ ?_))
   rotate_left 2
   ·rw[aB (L:=nS) rfl]
    simp only[go_sem,h4,h0,hr,hw,a1,q,decide_false,not_false_eq_true,decide_true];rfl
   ·rfl
  rw[q] at a1;by_cases hz0:i=0
  ·have hz:¬ (0:Int) < (i:Int):=by omega
   have hb:iL (m.take i) e=0:=by rw[hz0];exact OD q
   rw[hb,if_neg (by simp)];have step:aC G0 nS (ST [(3,.str (lst m i)),(11,.bool false),(12,.sl .no 8 (ens m)),(13,.int .i64 m.length),(14,.int .i64 i)] [] [])=aC G0 nS (ST [(3,.str (aG e)),(11,.bool false),(12,.sl .no 8 (ens m)),(13,.int .i64 m.length),(14,.int .i64 ((i+1:Nat):Int))] [] []):=by
    conv=>lhs;rw[aB (L:=nS) rfl]
    simp only[go_sem,h4,h0,hr,hw,a1,a2,hz,decide_false,not_true_eq_false]
   rw[step];exact ih
  obtain⟨j,rfl⟩:∃ j,i=j+1:=⟨i - 1,by omega⟩
  have hgj:m[j]?=some m[j]:=getElem?_eq_getElem (by omega);generalize m[j]=f at hgj;have el:lst m (j+1)=aG f:=G5 hgj;have hj0:(0:Int) < ((j+1:Nat):Int):=by omega
  have ho:=kOrd (aG f) (aG e);rw[<- OC q (JQ hgj)] at ho;rw[el];by_cases hb:iL (m.take (j+1)) e=0
  ·rw[hb] at ho ⊢
   rw[if_neg (by simp)];have step:aC G0 nS (ST [(3,.str (aG f)),(11,.bool false),(12,.sl .no 8 (ens m)),(13,.int .i64 m.length),(14,.int .i64 ((j+1:Nat):Int))] [] [])=aC G0 nS (ST [(3,.str (aG e)),(11,.bool false),(12,.sl .no 8 (ens m)),(13,.int .i64 m.length),(14,.int .i64 ((j+1+1:Nat):Int))] [] []):=by
    conv=>lhs;rw[aB (L:=nS) rfl]
    simp only[go_sem,h4,h0,hr,hw,a1,a2,hj0,ho,decide_true,not_true_eq_false]
   rw[step];exact ih
  ·rw[if_pos hb]
   refine⟨fun z=>absurd z hb,fun _=>?_⟩;refine Exists.intro ?_ (Exists.intro ?_ (And.intro ?_ ?_))
   rotate_left 2
   ·rw[aB (L:=nS) rfl]
    simp only[go_sem,h4,h0,hr,hw,a1,a2,hj0,ho,hb,decide_true,decide_false,not_true_eq_false,not_false_eq_true];rfl
   ·rfl
theorem kChk (m:List En) (hl:m.length<=2000) (hB:∀ e∈m,BE e):G0 32 [.sl .no 8 (ens m)] []=some (.int .i64 (qH m),[]):=by
 refine aA F32 rfl rfl rfl ?_;unfold qH;by_cases hc:1024 < m.length
 ·have hc':(1024:Int) < (m.length:Int):=by omega
  rw[if_pos hc];simp only[F32,go_sem,aK,hc']
 have hc':¬ (1024:Int) < (m.length:Int):=by omega
 rw[if_neg hc];obtain⟨x1,x2⟩:=l32c m hl hB m.length 0 (by omega);have ec:((0:Nat):Int)=0:=rfl;have e3:lst m 0=[]:=rfl;rw[drop_zero,take_zero,ec,e3] at x1 x2;by_cases hq:sW [] m=0
 ·have y:=x1 hq
  rw[hq];simp only[F32,go_sem,aK,hc',y]
 ·obtain⟨l',M,y1,y2⟩:=x2 hq
  simp only[F32,go_sem,aK,hc',y1,y2]
theorem kBeh (p:List En) (hl:p.length<=1000000) (hB:∀ e∈p,BE e) (e:En) (he:BE e):G0 69 [.sl .no 8 (ens p),.agg (aN e)] []=some (.int .i64 (iL p e),[]):=by
 have a1:=k38 e he;have a2:=k26 e he;simp only[aN] at a1 a2;refine aA F69 rfl rfl rfl ?_;by_cases q:vE e=0
 case neg =>
  rw[OB q];simp only[F69,aN,go_sem,a1,q,decide_false,not_false_eq_true,decide_true]
 rw[q] at a1;rcases eq_nil_or_concat p with rfl | ⟨g,f,hp⟩
 ·rw[OD q]
  simp only[F69,aN,go_sem,a1,ens,not_true_eq_false,decide_false]
 ·have hp:p=g++[f]:=by rw[hp,concat_eq_append]
  subst hp;rw[OC q (f:=f) (by simp)];have hn:(g++[f]).length=g.length+1:=by simp
  have hz:¬ ((g.length+1:Nat):Int)=0:=by omega
  have hw:IntKind.i64.wrap (((g.length+1:Nat):Int) - 1)=(g.length:Int):=by rw[w64 (by omega) (by omega)];omega
  have h0:(0:Int)<=(g.length:Int):=by omega
  have hg:(g++[f])[g.length]?=some f:=by simp
  have hr:=fI hg;have hBf:=hB f (by simp);have a3:=k26 f hBf;simp only[aN] at a3;by_cases r:aG f=aG e
  ·have r':(aG f == aG e)=true:=by simpa using r
   rw[if_pos r];simp only[F69,aN,go_sem,a1,a2,a3,aK,hn,hz,hw,h0,hr,r',not_true_eq_false,decide_false]
  ·have r':(aG f == aG e)=false:=by simpa using r
   rw[if_neg r];have hgt:=A8 (aG f) (aG e)
   cases t:ltB (aG e) (aG f) with
   | true =>
    have t2:ltB (aG f) (aG e)=false:=fU t;simp only[F69,aN,go_sem,a1,a2,a3,aK,hn,hz,hw,h0,hr,r',t2,eC,Bool.or_false,Bool.not_false,Bool.not_true,not_true_eq_false,decide_false]
   | false =>
    have t2:ltB (aG f) (aG e)=true:=jH _ _ t (fun h=>r h.symm);simp only[F69,aN,go_sem,a1,a2,a3,aK,hn,hz,hw,h0,hr,r',t2,eC,Bool.or_false,Bool.not_false,Bool.not_true,not_true_eq_false,decide_false]
theorem l38c (m:List En) (hl:m.length<=2000) (hB:∀ e∈m,BE e):∀ (k i:Nat),i+k=m.length ->
  (sW (m.take i) (m.drop i)=0->aC G0 uW (ST [(0,.sl .no 8 (ens m)),(3,.int .i64 i),(7,.bool false)] [] [])=some (.ex 0,ST [(0,.sl .no 8 (ens m)),(3,.int .i64 m.length),(7,.bool false),(11,.bool false)] [] [])) /\
  (sW (m.take i) (m.drop i)≠0->∃ l',aC G0 uW (ST [(0,.sl .no 8 (ens m)),(3,.int .i64 i),(7,.bool false)] [] [])=some (.ret,ST l' [] [])/\aE .any l' 2=.int .i64 (sW (m.take i) (m.drop i)))
 | 0,i,h=>by
  have:i=m.length:=by omega
  subst this;rw[drop_length];refine⟨fun _=>?_,fun q=>absurd rfl q⟩;rw[aB (L:=uW) rfl];simp only[go_sem,aK,Int.lt_irrefl]
 | k+1,i,h=>by
  have hi:i < m.length:=by omega
  have h4:(i:Int) < (m.length:Int):=by omega
  have h5:(i:Int)<=(m.length:Int):=by omega
  have h0:(0:Int)<=(i:Int):=by omega
  have hw:=wI (i:=i) (by omega)
  have hg:m[i]?=some m[i]:=getElem?_eq_getElem hi;have hd:m.drop i=m[i] :: m.drop (i+1):=drop_eq_getElem_cons hi;have hBe:=hB _ (getElem_mem hi);generalize m[i]=e at hg hd hBe;have hr:=fI hg;have ht:(ens m).take i=ens (m.take i):=by simp [ens]
  have a1:=kBeh (m.take i) (by simp;omega) (fun e he=>hB e (mem_of_mem_take he)) e hBe;simp only[aN] at a1;have ih:=l38c m hl hB k (i+1) (by omega);rw[hd,N1,KR hg];by_cases hb:iL (m.take i) e=0
  ·rw[hb] at a1 ⊢
   rw[if_neg (by simp)];have step:aC G0 uW (ST [(0,.sl .no 8 (ens m)),(3,.int .i64 i),(7,.bool false)] [] [])=aC G0 uW (ST [(0,.sl .no 8 (ens m)),(3,.int .i64 ((i+1:Nat):Int)),(7,.bool false)] [] []):=by
    conv=>lhs;rw[aB (L:=uW) rfl]
    simp only[go_sem,aK,h4,h5,h0,hr,hw,ht,a1,not_true_eq_false,decide_false]
   rw[step];exact ih
  ·rw[if_pos hb]
   refine⟨fun z=>absurd z hb,fun _=>?_⟩;refine Exists.intro ?_ (And.intro ?_ ?_)
   rotate_left 1
   ·rw[aB (L:=uW) rfl]
    simp only[go_sem,aK,h4,h5,h0,hr,hw,ht,a1,hb,decide_false,not_false_eq_true,decide_true];rfl
   ·rfl
theorem UN (m:List En) (hl:m.length<=2000) (hB:∀ e∈m,BE e):G0 38 [.sl .no 8 (ens m)] []=some (.int .i64 (qH m),[]):=by
 refine aA F38 rfl rfl rfl ?_;unfold qH;by_cases hc:1024 < m.length
 ·have hc':(1024:Int) < (m.length:Int):=by omega
  rw[if_pos hc];simp only[F38,go_sem,aK,hc']
 have hc':¬ (1024:Int) < (m.length:Int):=by omega
 rw[if_neg hc];obtain⟨x1,x2⟩:=l38c m hl hB m.length 0 (by omega);have ec:((0:Nat):Int)=0:=rfl;rw[drop_zero,take_zero,ec] at x1 x2;by_cases hq:sW [] m=0
 ·have y:=x1 hq
  rw[hq];simp only[F38,go_sem,aK,hc',y]
 ·obtain⟨l',y1,y2⟩:=x2 hq
  simp only[F38,go_sem,aK,hc',y1,y2]
end Go.Av
