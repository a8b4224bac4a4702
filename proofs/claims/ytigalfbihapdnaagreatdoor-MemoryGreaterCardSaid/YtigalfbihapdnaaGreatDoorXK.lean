/- The union of two memories, by both packages. No conditions. The reference's union of two memories. No conditions. The laws MemoryUnites and MemoryGreater. No conditions. -/
import Derived.Test.YtigalfbihapdnaaGreatDoorXJ
set_option linter.unusedSimpArgs false
set_option linter.unusedVariables false
set_option linter.unusedSectionVars false
set_option maxRecDepth 100000
set_option maxHeartbeats 16000000
namespace Go.Av
open Go.Nt
def iv (c:List Int):List AV:=c.map (AV.int .i64)
theorem iv_at {c:List Int} {i:Nat} {x:Int} (h:c[i]?=some x):(iv c)[i]?=some (.int .i64 x):=by simp [iv,h]
theorem iv_len (c:List Int):(iv c).length=c.length:=by simp [iv]
theorem l40k (c:List Int) (hl:c.length=6):∀ (k i:Nat),i+k=6 →
  (orF (c.drop i)=0→∃ l',execX G0 L40_0 (ST [(51,.agg (iv c)),(52,.int .i64 i)] [] [])=some (.ex 0,ST l' [] [])) ∧
  (orF (c.drop i)≠0→∃ l',execX G0 L40_0 (ST [(51,.agg (iv c)),(52,.int .i64 i)] [] [])=some (.ret,ST l' [] [])∧look .any l' 4=.int .i64 (orF (c.drop i)))
 | 0,i,h=>by
  have:i=6:=by omega
  subst this
  have e:c.drop 6=[]:=List.drop_of_length_le (by omega)
  have c6:((6:Nat):Int)=6:=rfl
  rw[e,c6]
  refine⟨fun _=>?_,fun h=>(by simp [orF] at h)⟩
  refine Exists.intro ?_ ?_
  rotate_left 1
  rw[Y_loop (L:=L40_0) rfl]
  simp only[go_sem,Int.lt_irrefl]
  rfl
 | k+1,i,h=>by
  have hi:i < c.length:=by omega
  have h4:(i:Int) < 6:=by omega
  have h0:(0:Int)≤(i:Int):=by omega
  have hw:IntKind.i64.wrap ((i:Int)+1)=((i+1:Nat):Int):=by rw[w64 (by omega) (by omega)];rfl
  have hg:c[i]?=some c[i]:=List.getElem?_eq_getElem hi
  have hd:c.drop i=c[i] :: c.drop (i+1):=List.drop_eq_getElem_cons hi
  generalize c[i]=a at hg hd
  have hr:=iv_at hg
  have hL:(iv c).length=6:=by rw[iv_len,hl]
  have ih:=l40k c hl k (i+1) (by omega)
  rw[hd]
  by_cases q:a=0
  ·have e:orF (a :: c.drop (i+1))=orF (c.drop (i+1)):=by simp [orF,q]
   rw[e]
   have step:execX G0 L40_0 (ST [(51,.agg (iv c)),(52,.int .i64 i)] [] [])=execX G0 L40_0 (ST [(51,.agg (iv c)),(52,.int .i64 ((i+1:Nat):Int))] [] []):=by
    conv=>lhs;rw[Y_loop (L:=L40_0) rfl]
    simp only[go_sem,h4,h0,hr,hw,hL,q,Int.toNat_natCast,Nat.mul_one,ne_eq,not_true_eq_false,decide_false]
   rw[step]
   exact ih
  ·have e:orF (a :: c.drop (i+1))=a:=by simp [orF,q]
   rw[e]
   refine⟨fun z=>absurd z q,fun _=>?_⟩
   refine Exists.intro ?_ (And.intro ?_ ?_)
   rotate_left 1
   ·rw[Y_loop (L:=L40_0) rfl]
    simp only[go_sem,h4,h0,hr,hw,hL,q,Int.toNat_natCast,Nat.mul_one,ne_eq,not_false_eq_true,decide_true]
    rfl
   ·rfl
theorem k40 (x y:En) (hx:BE x) (hy:BE y):G0 40 [.agg (rowE x),.agg (rowE y)] []=some (.int .i64 (cmpE x y),[]):=by
 obtain⟨l1,l2,l3⟩:=hx.lT
 obtain⟨m1,m2,m3⟩:=hy.lT
 have a1:=c33 x.T (by omega) l3
 have a2:=c33 y.T (by omega) m3
 rw[fmE_eq] at a1 a2
 have b1:=k26 x hx
 have b2:=k26 y hy
 simp only[rowE] at b1 b2
 have d1:=k83 (keyE x) (keyE y)
 have d2:=k84 x.c y.c
 have d3:=k84 y.o x.o
 have d4:=k83 x.a y.a
 have d5:=k83 x.j y.j
 have d6:=k83 (fmE x.T) (fmE y.T)
 have e:=cmpE_or x y
 obtain⟨x1,x2⟩:=l40k [cmpB (keyE x) (keyE y),cmpI x.c y.c,cmpI y.o x.o,cmpB x.a y.a,cmpB x.j y.j,cmpB (fmE x.T) (fmE y.T)] rfl 6 0 (by omega)
 have ec:((0:Nat):Int)=0:=rfl
 rw[List.drop_zero,ec,← e] at x1 x2
 simp only[iv,List.map_cons,List.map_nil] at x1 x2
 refine contract F40 rfl rfl rfl ?_
 by_cases q:cmpE x y=0
 ·obtain⟨l',y1⟩:=x1 q
  rw[q]
  simp only[F40,rowE,go_sem,a1,a2,b1,b2,d1,d2,d3,d4,d5,d6,y1,look_kill,look_setl,List.not_mem_nil,if_true,if_false]
 ·obtain⟨l',y1,y2⟩:=x2 q
  simp only[F40,rowE,go_sem,a1,a2,b1,b2,d1,d2,d3,d4,d5,d6,y1,y2]
theorem jn_at {m:List En} {i:Nat} {e:En} (h:m[i]?=some e):(strs (m.map joinE))[i]?=some [.str (joinE e)]:=strs_at (by rw[List.getElem?_map,h];rfl)
theorem l41k (a b:List En) (la:a.length≤1024) (lb:b.length≤1024) (ma:Mem a) (mb:Mem b) (hA:∀ e∈a,BE e) (hB:∀ e∈b,BE e):∀ (n i j:Nat) (out:List En) (md:Own),i≤a.length→j≤b.length→(a.length - i)+(b.length - j)≤n→out.length≤i+j→md≠.no →
  ∃ md',execX G0 L41_0 (ST [(0,.sl .no 8 (ens a)),(1,.sl .no 8 (ens b)),(6,.sl .no 1 (strs (a.map joinE))),(8,.sl .no 1 (strs (b.map joinE))),(10,.sl md 8 (ens out)),(11,.int .i64 i),(12,.int .i64 j),(29,.bool false)] [] [])=some (.ex 0,ST [(0,.sl .no 8 (ens a)),(1,.sl .no 8 (ens b)),(6,.sl .no 1 (strs (a.map joinE))),(8,.sl .no 1 (strs (b.map joinE))),(10,.sl md' 8 (ens (out++uni (a.drop i) (b.drop j)))),(11,.int .i64 a.length),(12,.int .i64 b.length),(29,.bool false),(39,.bool false)] [] [])
 | n,i,j,out,md,hi,hj,hn,ho,hm=>by
  by_cases qi:i=a.length
  ·by_cases qj:j=b.length
   ·subst qi;subst qj
    refine⟨md,?_⟩
    rw[List.drop_length,List.drop_length,uni_nil,List.append_nil]
    rw[Y_loop (L:=L41_0) rfl]
    simp only[go_sem,ens_len,Int.lt_irrefl,decide_false]
   ·subst qi
    cases n with
    | zero=>omega
    | succ n =>
     have hj2:j < b.length:=by omega
     have hg:b[j]?=some b[j]:=List.getElem?_eq_getElem hj2
     have hd:b.drop j=b[j] :: b.drop (j+1):=List.drop_eq_getElem_cons hj2
     have hBe:=hB _ (List.getElem_mem hj2)
     generalize b[j]=y at hg hd hBe
     have hr:=ens_at hg
     have a1:=k69 y hBe
     simp only[rowE] at a1
     have p:=appX (o:=.full) hm out [y] (by simp;omega)
     obtain⟨md',ih⟩:=l41k a b la lb ma mb hA hB n a.length (j+1) (out++[y]) .own (Nat.le_refl _) hj2 (by omega) (by simp;omega) (by decide)
     refine⟨md',?_⟩
     rw[List.drop_length,nil_uni] at ih ⊢
     rw[hd]
     rw[List.append_assoc] at ih
     have h4:(j:Int) < (b.length:Int):=by omega
     have h5:((j:Int)=(b.length:Int))=False:=eq_false (by omega)
     have h0:(0:Int)≤(j:Int):=by omega
     have hw:IntKind.i64.wrap ((j:Int)+1)=((j+1:Nat):Int):=by rw[w64 (by omega) (by omega)];rfl
     rw[Y_loop (L:=L41_0) rfl]
     simp only[go_sem,ens_len,Int.lt_irrefl,decide_false,decide_true,h4,h5,h0,hw,hr,a1,mks8,ens_one,p]
     exact ih
  ·have hi2:i < a.length:=by omega
   have hg:a[i]?=some a[i]:=List.getElem?_eq_getElem hi2
   have hd:a.drop i=a[i] :: a.drop (i+1):=List.drop_eq_getElem_cons hi2
   have hBe:=hA _ (List.getElem_mem hi2)
   have hV:=ma.1 _ (List.getElem_mem hi2)
   generalize a[i]=x at hg hd hBe hV
   have hr:=ens_at hg
   have hs:=jn_at hg
   have a1:=k69 x hBe
   simp only[rowE] at a1
   have p:=appX (o:=.full) hm out [x] (by simp;omega)
   have h4:(i:Int) < (a.length:Int):=by omega
   have h5:((i:Int)=(a.length:Int))=False:=eq_false (by omega)
   have h0:(0:Int)≤(i:Int):=by omega
   have hw:IntKind.i64.wrap ((i:Int)+1)=((i+1:Nat):Int):=by rw[w64 (by omega) (by omega)];rfl
   cases n with
   | zero=>omega
   | succ n =>
   by_cases qj:j=b.length
   ·subst qj
    obtain⟨md',ih⟩:=l41k a b la lb ma mb hA hB n (i+1) b.length (out++[x]) .own (by omega) (Nat.le_refl _) (by omega) (by simp;omega) (by decide)
    refine⟨md',?_⟩
    rw[List.drop_length,uni_nil] at ih ⊢
    rw[hd]
    rw[List.append_assoc] at ih
    rw[Y_loop (L:=L41_0) rfl]
    simp only[go_sem,ens_len,Int.lt_irrefl,decide_false,decide_true,h4,h5,h0,hw,hr,a1,mks8,ens_one,p]
    exact ih
   ·have hj2:j < b.length:=by omega
    have gg:b[j]?=some b[j]:=List.getElem?_eq_getElem hj2
    have gd:b.drop j=b[j] :: b.drop (j+1):=List.drop_eq_getElem_cons hj2
    have gBe:=hB _ (List.getElem_mem hj2)
    have gV:=mb.1 _ (List.getElem_mem hj2)
    generalize b[j]=y at gg gd gBe gV
    have gr:=ens_at gg
    have gs:=jn_at gg
    have b1:=k69 y gBe
    simp only[rowE] at b1
    have pb:=appX (o:=.full) hm out [y] (by simp;omega)
    have g4:(j:Int) < (b.length:Int):=by omega
    have g5:((j:Int)=(b.length:Int))=False:=eq_false (by omega)
    have g0:(0:Int)≤(j:Int):=by omega
    have gw:IntKind.i64.wrap ((j:Int)+1)=((j+1:Nat):Int):=by rw[w64 (by omega) (by omega)];rfl
    have u:=uni_cons x y (a.drop (i+1)) (b.drop (j+1))
    rw[← hd,← gd,← key_joinV hV,← key_joinV gV] at u
    cases q1:ltB (joinE x) (joinE y) with
    | true =>
     obtain⟨md',ih⟩:=l41k a b la lb ma mb hA hB n (i+1) j (out++[x]) .own (by omega) (by omega) (by omega) (by simp;omega) (by decide)
     refine⟨md',?_⟩
     rw[u,if_pos q1]
     rw[List.append_assoc] at ih
     rw[Y_loop (L:=L41_0) rfl]
     simp only[go_sem,ens_len,decide_false,decide_true,h4,h5,h0,hw,hr,hs,g4,g5,g0,gr,gs,ltB_def,q1,a1,mks8,ens_one,p]
     exact ih
    | false =>
     cases q2:ltB (joinE y) (joinE x) with
     | true =>
      obtain⟨md',ih⟩:=l41k a b la lb ma mb hA hB n i (j+1) (out++[y]) .own (by omega) (by omega) (by omega) (by simp;omega) (by decide)
      refine⟨md',?_⟩
      rw[u,if_neg (by rw[q1];decide),if_pos q2]
      rw[List.append_assoc] at ih
      rw[Y_loop (L:=L41_0) rfl]
      simp only[go_sem,ens_len,decide_false,decide_true,h4,h5,h0,gw,hr,hs,g4,g5,g0,gr,gs,ltB_def,q1,q2,b1,mks8,ens_one,pb]
      exact ih
     | false =>
      have c:=k39 x y hBe gBe
      simp only[rowE] at c
      by_cases q3:cmpE x y < 0
      ·obtain⟨md',ih⟩:=l41k a b la lb ma mb hA hB n (i+1) (j+1) (out++[y]) .own (by omega) (by omega) (by omega) (by simp;omega) (by decide)
       refine⟨md',?_⟩
       rw[u,if_neg (by rw[q1];decide),if_neg (by rw[q2];decide),if_pos q3]
       rw[List.append_assoc] at ih
       rw[Y_loop (L:=L41_0) rfl]
       simp only[go_sem,ens_len,decide_false,decide_true,h4,h5,h0,hw,gw,hr,hs,g4,g5,g0,gr,gs,ltB_def,q1,q2,q3,c,b1,mks8,ens_one,pb]
       exact ih
      ·obtain⟨md',ih⟩:=l41k a b la lb ma mb hA hB n (i+1) (j+1) (out++[x]) .own (by omega) (by omega) (by omega) (by simp;omega) (by decide)
       refine⟨md',?_⟩
       rw[u,if_neg (by rw[q1];decide),if_neg (by rw[q2];decide),if_neg q3]
       rw[List.append_assoc] at ih
       rw[Y_loop (L:=L41_0) rfl]
       simp only[go_sem,ens_len,decide_false,decide_true,h4,h5,h0,hw,gw,hr,hs,g4,g5,g0,gr,gs,ltB_def,q1,q2,q3,c,a1,mks8,ens_one,p]
       exact ih
def uniE (a b:List En):Int:=if okM a=true∧okM b=true then (if (uni a b).length≤1024 then 0 else 3) else 1
def uniV (a b:List En):List En:=if uniE a b=0 then uni a b else []
theorem uniE_1 {a b:List En} (h:¬ (okM a=true∧okM b=true)):uniE a b=1∧uniV a b=[]:=by
 have:uniE a b=1:=by unfold uniE;rw[if_neg h]
 exact⟨this,by unfold uniV;rw[this];rfl⟩
theorem uniE_0 {a b:List En} (h:okM a=true) (h2:okM b=true) (hl:(uni a b).length≤1024):uniE a b=0∧uniV a b=uni a b:=by
 have:uniE a b=0:=by unfold uniE;rw[if_pos ⟨h,h2⟩,if_pos hl]
 exact⟨this,by unfold uniV;rw[this];rfl⟩
theorem uniE_3 {a b:List En} (h:okM a=true) (h2:okM b=true) (hl:¬ (uni a b).length≤1024):uniE a b=3∧uniV a b=[]:=by
 have:uniE a b=3:=by unfold uniE;rw[if_pos ⟨h,h2⟩,if_neg hl]
 exact⟨this,by unfold uniV;rw[this];rfl⟩
theorem k41 (a b:List En) (la:a.length≤2000) (lb:b.length≤2000) (hA:∀ e∈a,BE e) (hB:∀ e∈b,BE e):G0 41 [.sl .no 8 (ens a),.sl .no 8 (ens b)] []=some (.tup [.sl .no 8 (ens (uniV a b)),.int .i64 (uniE a b)],[]):=by
 have a1:=k66 a la hA
 have b1:=k66 b lb hB
 refine contract F41 rfl rfl rfl ?_
 cases qa:okM a with
 | false =>
  rw[qa] at a1
  rw[(uniE_1 (by simp [qa])).1,(uniE_1 (by simp [qa])).2]
  simp only[F41,go_sem,a1,b1,Bool.not_false]
  rfl
 | true =>
 rw[qa] at a1
 cases qb:okM b with
 | false =>
  rw[qb] at b1
  rw[(uniE_1 (by simp [qb])).1,(uniE_1 (by simp [qb])).2]
  simp only[F41,go_sem,a1,b1,Bool.not_false,Bool.not_true]
  rfl
 | true =>
  rw[qb] at b1
  obtain⟨h1,h2⟩:=(okM_iff a).1 qa
  obtain⟨h3,h4⟩:=(okM_iff b).1 qb
  obtain⟨md',x⟩:=l41k a b h1 h3 h2 h4 hA hB (a.length+b.length) 0 0 [] .full (by omega) (by omega) (by omega) (by simp) (by decide)
  have ec:((0:Nat):Int)=0:=rfl
  rw[List.drop_zero,List.drop_zero,ec,List.nil_append,ens_nil] at x
  simp only[if_true] at a1 b1
  by_cases q:(uni a b).length≤1024
  ·have q':¬ (1024:Int) < ((uni a b).length:Int):=by omega
   rw[(uniE_0 qa qb q).1,(uniE_0 qa qb q).2]
   simp only[F41,go_sem,a1,b1,Bool.not_true,x,ens_len,q']
  ·have q':(1024:Int) < ((uni a b).length:Int):=by omega
   rw[(uniE_3 qa qb q).1,(uniE_3 qa qb q).2]
   simp only[F41,go_sem,a1,b1,Bool.not_true,x,ens_len,q']
   rfl
end Go.Av
namespace Go.Av
open Go.Nt
def updE (out:List En) (e:En):List En:=match getM out (keyE e) with
 | none=>putM out e
 | some x=>if cmpE x e < 0 then putM out e else out
theorem upd_sr {out:List En} (h:Sr out) (e:En):Sr (updE out e):=by
 unfold updE
 split
 ·exact sr_put h e
 ·split
  ·exact sr_put h e
  ·exact h
theorem mxE_none (x:Option En):mxE x none=x:=by cases x<;>rfl
theorem get_upd {out:List En} (h:Sr out) (e:En) (k:Bs):getM (updE out e) k=if k=keyE e then mxE (getM out k) (some e) else getM out k:=by
 unfold updE
 cases hg:getM out (keyE e) with
 | none =>
  simp only[]
  rw[get_put h]
  by_cases q:k=keyE e
  ·rw[if_pos q,if_pos q,q,hg];rfl
  ·rw[if_neg q,if_neg q]
 | some x =>
  simp only[]
  by_cases c:cmpE x e < 0
  ·rw[if_pos c,get_put h]
   by_cases q:k=keyE e
   ·rw[if_pos q,if_pos q,q,hg]
    show _=some (if cmpE x e < 0 then e else x)
    rw[if_pos c]
   ·rw[if_neg q,if_neg q]
  ·rw[if_neg c]
   by_cases q:k=keyE e
   ·rw[if_pos q,q,hg]
    show _=some (if cmpE x e < 0 then e else x)
    rw[if_neg c]
   ·rw[if_neg q]
theorem get_fold:∀ (b a:List En),Sr a→Sr b→∀ k,getM (b.foldl updE a) k=mxE (getM a k) (getM b k)
 | [],a,ha,hb,k=>(mxE_none _).symm
 | y :: b,a,ha,hb,k=>by
  rw[List.foldl_cons,get_fold b (updE a y) (upd_sr ha y) (List.pairwise_cons.1 hb).2,get_upd ha,getM_cons]
  by_cases q:k=keyE y
  ·rw[if_pos q,if_pos q.symm,q,getM_tail hb,mxE_none]
  ·rw[if_neg q,if_neg (fun z=>q z.symm)]
theorem fold_sr:∀ (b a:List En),Sr a→Sr (b.foldl updE a)
 | [],a,h=>h
 | y :: b,a,h=>fold_sr b _ (upd_sr h y)
theorem uni_fold {a b:List En} (ha:Mem a) (hb:Mem b):b.foldl updE a=uni a b:=
 mem_ext (fold_sr b a ha.2) (uni_mem ha hb).2 fun k=>by rw[get_fold b a ha.2 hb.2,get_uni _ a b (Nat.le_refl _) ha.2 hb.2]
theorem upd_in {P:En→Prop} {out:List En} (h:∀ x∈out,P x) {e:En} (he:P e):∀ x∈updE out e,P x:=by
 have hp:∀ x∈putM out e,P x:=fun x hx=>by
  rcases mem_put.1 hx with q | q
  ·rw[q];exact he
  ·exact h x q.1
 unfold updE
 split
 ·exact hp
 ·split
  ·exact hp
  ·exact h
theorem upd_len {out:List En} (h:Sr out) (e:En):(updE out e).length≤out.length+1:=by
 have:=putM_len out h e
 unfold updE
 split
 ·exact this
 ·split
  ·exact this
  ·omega
theorem upd_mem {out:List En} (h:Mem out) {e:En} (he:VE e):Mem (updE out e):=⟨upd_in h.1 he,upd_sr h.2 e⟩
theorem l42k (b:List En) (hB:∀ e∈b,BE e) (mb:∀ e∈b,VE e) (lb:b.length≤2000):∀ (k i:Nat) (out:List En) (md:Own),i+k=b.length→Mem out→(∀ e∈out,BE e)→out.length+k≤2000 →
  ∃ md',execX G0 L42_0 (ST [(1,.sl .no 8 (ens b)),(6,.sl md 8 (ens out)),(16,.bool false),(20,.int .i64 b.length),(21,.int .i64 i)] [] [])=some (.ex 0,ST [(1,.sl .no 8 (ens b)),(6,.sl md' 8 (ens ((b.drop i).foldl updE out))),(16,.bool false),(20,.int .i64 b.length),(21,.int .i64 b.length),(22,.bool false)] [] [])
 | 0,i,out,md,h,m1,m2,m3=>by
  have:i=b.length:=by omega
  subst this
  refine⟨md,?_⟩
  rw[List.drop_length]
  rw[Y_loop (L:=L42_0) rfl]
  simp only[go_sem,Int.lt_irrefl,List.foldl_nil]
 | k+1,i,out,md,h,m1,m2,m3=>by
  have hi:i < b.length:=by omega
  have h4:(i:Int) < (b.length:Int):=by omega
  have h0:(0:Int)≤(i:Int):=by omega
  have hw:IntKind.i64.wrap ((i:Int)+1)=((i+1:Nat):Int):=by rw[w64 (by omega) (by omega)];rfl
  have hg:b[i]?=some b[i]:=List.getElem?_eq_getElem hi
  have hd:b.drop i=b[i] :: b.drop (i+1):=List.drop_eq_getElem_cons hi
  have hBe:=hB _ (List.getElem_mem hi)
  have hV:=mb _ (List.getElem_mem hi)
  generalize b[i]=e at hg hd hBe hV
  have hr:=ens_at hg
  have a1:=k26 e hBe
  simp only[rowE] at a1
  have a2:=k71 out (by omega) m2 m1 (keyE e)
  have hle:=plc_le m1 (keyE e)
  have p0:(0:Int)≤((plc out (keyE e):Nat):Int):=by omega
  have w1:=k72 out (by omega) (plc out (keyE e)) e 1
  have w0:=k72 out (by omega) (plc out (keyE e)) e 0 (by omega)
  have e1:((1:Nat):Int)=1:=rfl
  have e0:((0:Nat):Int)=0:=rfl
  rw[e1] at w1
  rw[e0,Nat.add_zero] at w0
  simp only[rowE] at w1 w0
  have lu:=upd_len m1.2 e
  obtain⟨md0,ih⟩:=l42k b hB mb lb k (i+1) (updE out e) .no (by omega) (upd_mem m1 hV) (upd_in m2 hBe) (by omega)
  have ihs:=l42k b hB mb lb k (i+1) (updE out e) md (by omega) (upd_mem m1 hV) (upd_in m2 hBe) (by omega)
  rw[hd,List.foldl_cons]
  cases hgt:getM out (keyE e) with
  | none =>
   have eu:updE out e=putM out e:=by unfold updE;rw[hgt]
   rw[pt_none m1 hgt,← eu] at w0
   refine⟨md0,?_⟩
   rw[Y_loop (L:=L42_0) rfl]
   by_cases q:plc out (keyE e) < out.length
   ·have q':¬ (out.length:Int)≤((plc out (keyE e):Nat):Int):=by omega
    have q2:((plc out (keyE e):Nat):Int) < (out.length:Int):=by omega
    have gy:out[plc out (keyE e)]?=some out[plc out (keyE e)]:=List.getElem?_eq_getElem q
    have gB:=m2 _ (List.getElem_mem q)
    have gn:=at_none m1 hgt _ gy
    generalize out[plc out (keyE e)]=y at gy gB gn
    have gr:=ens_at gy
    have b1:=k26 y gB
    simp only[rowE] at b1
    have q3:(keyE y != keyE e)=true:=by simpa using gn
    simp only[go_sem,ens_len,h4,h0,hw,hr,a1,a2,p0,q',q2,gr,b1,q3,w0]
    exact ih
   ·have q':(out.length:Int)≤((plc out (keyE e):Nat):Int):=by omega
    simp only[go_sem,ens_len,h4,h0,hw,hr,a1,a2,p0,q',w0]
    exact ih
  | some x =>
   have q:=plc_lt m1 hgt
   have q':¬ (out.length:Int)≤((plc out (keyE e):Nat):Int):=by omega
   have q2:((plc out (keyE e):Nat):Int) < (out.length:Int):=by omega
   have gy:=at_some m1 hgt
   have gB:=m2 x (getM_some hgt).1
   have gr:=ens_at gy
   have b1:=k26 x gB
   have q3:(keyE x != keyE e)=false:=by simpa using (getM_some hgt).2
   have c:=k40 x e gB hBe
   simp only[rowE] at b1 c
   by_cases cc:cmpE x e < 0
   ·have eu:updE out e=putM out e:=by unfold updE;rw[hgt];simp only[];rw[if_pos cc]
    have w1:=w1 (by omega)
    rw[pt_some m1 hgt,← eu] at w1
    refine⟨md0,?_⟩
    rw[Y_loop (L:=L42_0) rfl]
    simp only[go_sem,ens_len,h4,h0,hw,hr,a1,a2,p0,q',q2,gr,b1,q3,c,cc,w1]
    exact ih
   ·have eu:updE out e=out:=by unfold updE;rw[hgt];simp only[];rw[if_neg cc]
    obtain⟨md1,ih1⟩:=ihs
    rw[eu] at ih1 ⊢
    refine⟨md1,?_⟩
    rw[Y_loop (L:=L42_0) rfl]
    simp only[go_sem,ens_len,h4,h0,hw,hr,a1,a2,p0,q',q2,gr,b1,q3,c,cc]
    exact ih1
theorem k42 (a b:List En) (la:a.length+b.length≤2000) (hA:∀ e∈a,BE e) (hB:∀ e∈b,BE e):G0 42 [.sl .no 8 (ens a),.sl .no 8 (ens b)] []=some (.tup [.sl .no 8 (ens (uniV a b)),.int .i64 (uniE a b)],[]):=by
 have a1:=k32 a (by omega) hA
 have b1:=k32 b (by omega) hB
 refine contract F42 rfl rfl rfl ?_
 cases qa:okM a with
 | false =>
  rw[qa] at a1
  rw[(uniE_1 (by simp [qa])).1,(uniE_1 (by simp [qa])).2]
  simp only[F42,go_sem,a1,b1,Bool.not_false]
  rfl
 | true =>
 rw[qa] at a1
 cases qb:okM b with
 | false =>
  rw[qb] at b1
  rw[(uniE_1 (by simp [qb])).1,(uniE_1 (by simp [qb])).2]
  simp only[F42,go_sem,a1,b1,Bool.not_false,Bool.not_true]
  rfl
 | true =>
  rw[qb] at b1
  obtain⟨h1,h2⟩:=(okM_iff a).1 qa
  obtain⟨h3,h4⟩:=(okM_iff b).1 qb
  have p1:=appX (md:=.full) (o:=.no) (by decide) [] a (by simp;omega)
  rw[ens_nil,List.nil_append] at p1
  obtain⟨md',x⟩:=l42k b hB h4.1 (by omega) b.length 0 a .own (by omega) h2 hA (by omega)
  have ec:((0:Nat):Int)=0:=rfl
  rw[List.drop_zero,ec,uni_fold h2 h4] at x
  by_cases q:(uni a b).length≤1024
  ·have q':¬ (1024:Int) < ((uni a b).length:Int):=by omega
   rw[(uniE_0 qa qb q).1,(uniE_0 qa qb q).2]
   simp only[F42,go_sem,a1,b1,Bool.not_true,p1,x,ens_len,q']
  ·have q':(1024:Int) < ((uni a b).length:Int):=by omega
   rw[(uniE_3 qa qb q).1,(uniE_3 qa qb q).2]
   simp only[F42,go_sem,a1,b1,Bool.not_true,p1,x,ens_len,q']
   rfl
end Go.Av
namespace Go.Av
open Go.Nt
theorem MG.uni {a b:List En} (ha:MG a) (hb:MG b):MG (uni a b):=⟨uni_mem ha.1 hb.1,fun e he=>by
 rcases uni_sub _ a b (Nat.le_refl _) e he with q | q
 ·exact ha.2 e q
 ·exact hb.2 e q⟩
theorem uni_l (a b:List En):(uni a b).length≤a.length+b.length:=uni_len _ a b (Nat.le_refl _)
theorem uni_ok {a b:List En} (ha:MG a) (hb:MG b) (h:a.length+b.length≤1000):uniE a b=0∧uniV a b=uni a b:=by
 have h0:uniE a b=0:=by
  unfold uniE
  have:=uni_l a b
  rw[if_pos ⟨ha.ok (by omega),hb.ok (by omega)⟩,if_pos (by omega)]
 exact⟨h0,by unfold uniV;rw[if_pos h0]⟩
theorem un41 {a b:List En} (ha:MG a) (hb:MG b) (h:a.length+b.length≤1000):G0 41 [.sl .no 8 (ens a),.sl .no 8 (ens b)] []=some (.tup [.sl .no 8 (ens (uni a b)),.int .i64 0],[]):=by
 have x:=k41 a b (by omega) (by omega) ha.be hb.be
 rw[(uni_ok ha hb h).1,(uni_ok ha hb h).2] at x
 exact x
theorem un42 {a b:List En} (ha:MG a) (hb:MG b) (h:a.length+b.length≤1000):G0 42 [.sl .no 8 (ens a),.sl .no 8 (ens b)] []=some (.tup [.sl .no 8 (ens (uni a b)),.int .i64 0],[]):=by
 have x:=k42 a b (by omega) ha.be hb.be
 rw[(uni_ok ha hb h).1,(uni_ok ha hb h).2] at x
 exact x
theorem k10 (l m n:List Int):G0 10 [.sl .no 1 (ints l),.sl .no 1 (ints m),.sl .no 1 (ints n)] []=some (.bool true,[]):=by
 refine contract F10 rfl rfl rfl ?_
 by_cases g1:(150:Int) < (l.length:Int)
 ·simp only[F10,go_sem,ints_length,g1,k20]
 by_cases g2:(150:Int) < (m.length:Int)
 ·simp only[F10,go_sem,ints_length,g1,g2,k20]
 by_cases g3:(150:Int) < (n.length:Int)
 ·simp only[F10,go_sem,ints_length,g1,g2,g3,k20]
 obtain⟨a,ha,la,a0⟩:=k25 l 5 (by decide)
 obtain⟨b,hb,lb,b0⟩:=k25 m 5 (by decide)
 obtain⟨c,hc,lc,c0⟩:=k25 n 5 (by decide)
 have c5:((5:Nat):Int)=5:=rfl
 rw[c5] at a0 b0 c0
 have hab:=ha.uni hb
 have hbc:=hb.uni hc
 have l1:=uni_l a b
 have l2:=uni_l b c
 have u1:=un41 ha hb (by omega)
 have u2:=un41 hb ha (by omega)
 rw[← uni_comm ha.1 hb.1] at u2
 have u3:=un42 ha hb (by omega)
 have u4:=un41 hab hc (by omega)
 have u5:=un41 hb hc (by omega)
 have u6:=un41 ha hbc (by omega)
 rw[← uni_assoc ha.1 hb.1 hc.1] at u6
 have u7:=un41 ha ha (by omega)
 rw[uni_idem ha.1] at u7
 have l3:=uni_l (uni a b) c
 have s1:=k28 (uni a b) (by omega) hab.be
 have s2:=k28 (uni (uni a b) c) (by omega) (hab.uni hc).be
 have s3:=k28 a (by omega) ha.be
 simp only[F10,go_sem,ints_length,g1,g2,g3,a0,b0,c0,u1,u2,u3,u4,u5,u6,u7,s1,s2,s3,k20]
theorem GE.cr {e:En} (h:GE e) {c:Int} (c0:0≤c) (c1:c≤1073741824):GE ⟨e.S,e.T,e.p,e.n,e.a,e.j,c,e.o⟩:=
 ⟨⟨h.1.vS,h.1.vT,h.1.ne,h.1.cS,h.1.cT,h.1.pp,h.1.pn,h.1.na,h.1.nj,c0,c1,h.1.o1,h.1.o3⟩,h.2.S,h.2.sT,h.2.T,h.2.tT,h.2.p,h.2.n,h.2.a,h.2.j⟩
theorem un_e {a b:List En} (ha:MG a) (hb:MG b) {e:En} (he:e∈uni a b) :
  (∃ x,getM a (keyE e)=some x∧getM b (keyE e)=none∧e=x)∨(∃ y,getM a (keyE e)=none∧getM b (keyE e)=some y∧e=y) ∨
  (∃ x y,getM a (keyE e)=some x∧getM b (keyE e)=some y∧((e=x∧cmpE y e≤0)∨(e=y∧cmpE x e≤0))):=by
 have h:=getM_mem (ha.uni hb).1.2 he
 rw[get_uni _ a b (Nat.le_refl _) ha.1.2 hb.1.2] at h
 cases p:getM a (keyE e) with
 | none =>
  cases q:getM b (keyE e) with
  | none=>rw[p,q] at h;cases h
  | some y=>rw[p,q] at h;cases h;exact .inr (.inl ⟨_,rfl,rfl,rfl⟩)
 | some x =>
  cases q:getM b (keyE e) with
  | none=>rw[p,q] at h;cases h;exact .inl ⟨_,rfl,rfl,rfl⟩
  | some y =>
   rw[p,q] at h
   refine .inr (.inr ⟨x,y,rfl,rfl,?_⟩)
   have h:(if cmpE x y < 0 then y else x)=e:=Option.some.inj h
   by_cases c:cmpE x y < 0
   ·rw[if_pos c] at h
    exact .inr ⟨h.symm,by rw[← h];omega⟩
   ·rw[if_neg c] at h
    have t:=cmpE_to.anti x y
    exact .inl ⟨h.symm,by rw[← h];omega⟩
theorem fnd_some {m:List En} (h:MG m) (hl:m.length≤1024) {k:Bs} {x:En} (hg:getM m k=some x):fndI m k=((plc m k:Nat):Int)∧plc m k < m.length∧m[plc m k]?=some x:=by
 refine⟨?_,plc_lt h.1 hg,at_some h.1 hg⟩
 unfold fndI;rw[if_pos (h.ok hl),hg]
theorem fnd_none {m:List En} (h:MG m) (hl:m.length≤1024) {k:Bs} (hg:getM m k=none):fndI m k = -1:=by
 unfold fndI;rw[if_pos (h.ok hl),hg]
theorem cmp_self {x:En} (h:GE x):cmpE x x=0:=(cmpE_z h.1 h.1).2 rfl
theorem l11a {a b:List En} (ha:MG a) (hb:MG b) (la:a.length≤100) (lb:b.length≤100):∀ (k i:Nat),i+k=(uni a b).length →
  execX G0 L11_0 (ST [(7,.sl .no 8 (ens a)),(8,.sl .no 8 (ens b)),(10,.sl .no 8 (ens (uni a b))),(25,.bool false),(33,.bool true),(57,.bool false),(58,.sl .no 8 (ens (uni a b))),(59,.int .i64 (uni a b).length),(60,.int .i64 i)] [] [])=some (.ex 0,(ST [(7,.sl .no 8 (ens a)),(8,.sl .no 8 (ens b)),(10,.sl .no 8 (ens (uni a b))),(25,.bool false),(33,.bool true),(57,.bool false),(58,.sl .no 8 (ens (uni a b))),(59,.int .i64 (uni a b).length),(60,.int .i64 (uni a b).length),(61,.bool false)] [] []))
 | 0,i,h=>by
  have:i=(uni a b).length:=by omega
  subst this
  rw[Y_loop (L:=L11_0) rfl]
  simp only[go_sem,Int.lt_irrefl]
 | k+1,i,h=>by
  have hi:i < (uni a b).length:=by omega
  have h4:(i:Int) < ((uni a b).length:Int):=by omega
  have h0:(0:Int)≤(i:Int):=by omega
  have hw:IntKind.i64.wrap ((i:Int)+1)=((i+1:Nat):Int):=by have:=uni_l a b;rw[w64 (by omega) (by omega)];rfl
  have hg:(uni a b)[i]?=some (uni a b)[i]:=List.getElem?_eq_getElem hi
  have he:=List.getElem_mem hi
  have ih:=l11a ha hb la lb k (i+1) (by omega)
  generalize (uni a b)[i]=e at hg he
  have hr:=ens_at hg
  have hG:=(ha.uni hb).2 e he
  have a1:=k26 e hG.2
  have f1:=k36 a (by omega) ha.be (keyE e)
  have f2:=k36 b (by omega) hb.be (keyE e)
  have s0:=k37 e e hG.2
  rw[(sameE_iff e e).2 rfl] at s0
  have c0:=k39 e e hG.2 hG.2
  rw[cmp_self hG] at c0
  simp only[rowE] at a1 s0 c0
  rw[Y_loop (L:=L11_0) rfl]
  rcases un_e ha hb he with ⟨x,p,q,rfl⟩ | ⟨y,p,q,rfl⟩ | ⟨x,y,p,q,⟨rfl,c⟩ | ⟨rfl,c⟩⟩
  ·obtain⟨p1,p2,p3⟩:=fnd_some ha (by omega) p
   rw[p1] at f1
   rw[fnd_none hb (by omega) q] at f2
   have n1:¬ ((plc a (keyE e):Nat):Int) < 0:=by omega
   have n2:(0:Int)≤((plc a (keyE e):Nat):Int):=by omega
   have n3:((plc a (keyE e):Nat):Int) < (a.length:Int):=by omega
   have r1:=ens_at p3
   simp only[go_sem,ens_len,h4,h0,hw,hr,a1,f1,f2,n1,n2,n3,r1,s0,c0,Int.lt_irrefl,decide_false,decide_true]
   exact ih
  ·obtain⟨p1,p2,p3⟩:=fnd_some hb (by omega) q
   rw[p1] at f2
   rw[fnd_none ha (by omega) p] at f1
   have n1:¬ ((plc b (keyE e):Nat):Int) < 0:=by omega
   have n2:(0:Int)≤((plc b (keyE e):Nat):Int):=by omega
   have n3:((plc b (keyE e):Nat):Int) < (b.length:Int):=by omega
   have r1:=ens_at p3
   simp only[go_sem,ens_len,h4,h0,hw,hr,a1,f1,f2,n1,n2,n3,r1,s0,c0,Int.lt_irrefl,decide_false,decide_true]
   exact ih
  ·obtain⟨p1,p2,p3⟩:=fnd_some ha (by omega) p
   obtain⟨q1,q2,q3⟩:=fnd_some hb (by omega) q
   rw[p1] at f1
   rw[q1] at f2
   have n1:¬ ((plc a (keyE e):Nat):Int) < 0:=by omega
   have n2:(0:Int)≤((plc a (keyE e):Nat):Int):=by omega
   have n3:((plc a (keyE e):Nat):Int) < (a.length:Int):=by omega
   have m1:¬ ((plc b (keyE e):Nat):Int) < 0:=by omega
   have m2:(0:Int)≤((plc b (keyE e):Nat):Int):=by omega
   have m3:((plc b (keyE e):Nat):Int) < (b.length:Int):=by omega
   have r1:=ens_at p3
   have r2:=ens_at q3
   have c1:=k39 y e (hb.be y (getM_some q).1) hG.2
   simp only[rowE] at c1
   have c2:¬ 0 < cmpE y e:=by omega
   simp only[go_sem,ens_len,h4,h0,hw,hr,a1,f1,f2,n1,n2,n3,m1,m2,m3,r1,r2,s0,c0,c1,c2,Int.lt_irrefl,decide_false,decide_true]
   exact ih
  ·obtain⟨p1,p2,p3⟩:=fnd_some ha (by omega) p
   obtain⟨q1,q2,q3⟩:=fnd_some hb (by omega) q
   rw[p1] at f1
   rw[q1] at f2
   have n1:¬ ((plc a (keyE e):Nat):Int) < 0:=by omega
   have n2:(0:Int)≤((plc a (keyE e):Nat):Int):=by omega
   have n3:((plc a (keyE e):Nat):Int) < (a.length:Int):=by omega
   have m1:¬ ((plc b (keyE e):Nat):Int) < 0:=by omega
   have m2:(0:Int)≤((plc b (keyE e):Nat):Int):=by omega
   have m3:((plc b (keyE e):Nat):Int) < (b.length:Int):=by omega
   have r1:=ens_at p3
   have r2:=ens_at q3
   have hx:=ha.be x (getM_some p).1
   have c1:=k39 x e hx hG.2
   have s1:=k37 x e hx
   simp only[rowE] at c1 s1
   have c2:¬ 0 < cmpE x e:=by omega
   cases sm:sameE x e with
   | true =>
    rw[sm] at s1
    simp only[go_sem,ens_len,h4,h0,hw,hr,a1,f1,f2,n1,n2,n3,m1,m2,m3,r1,r2,s0,s1,c0,c1,c2,Int.lt_irrefl,decide_false,decide_true]
    exact ih
   | false =>
    rw[sm] at s1
    simp only[go_sem,ens_len,h4,h0,hw,hr,a1,f1,f2,n1,n2,n3,m1,m2,m3,r1,r2,s0,s1,c0,c1,c2,Int.lt_irrefl,decide_false,decide_true]
    exact ih
theorem l11b {a b:List En} (ha:MG a) (hb:MG b) (la:a.length≤100) (lb:b.length≤100) (w:Int):∀ (k i:Nat),i+k=(uni a b).length →
  execX G0 L11_0 (ST [(2,.int .i64 w),(7,.sl .no 8 (ens a)),(8,.sl .no 8 (ens b)),(10,.sl .no 8 (ens (uni a b))),(25,.bool false),(33,.bool false),(57,.bool false),(58,.sl .no 8 (ens (uni a b))),(59,.int .i64 (uni a b).length),(60,.int .i64 i)] [] [])=some (.ex 0,(ST [(2,.int .i64 w),(7,.sl .no 8 (ens a)),(8,.sl .no 8 (ens b)),(10,.sl .no 8 (ens (uni a b))),(25,.bool false),(33,.bool false),(57,.bool false),(58,.sl .no 8 (ens (uni a b))),(59,.int .i64 (uni a b).length),(60,.int .i64 (uni a b).length),(61,.bool false)] [] []))
 | 0,i,h=>by
  have:i=(uni a b).length:=by omega
  subst this
  rw[Y_loop (L:=L11_0) rfl]
  simp only[go_sem,Int.lt_irrefl]
 | k+1,i,h=>by
  have hi:i < (uni a b).length:=by omega
  have h4:(i:Int) < ((uni a b).length:Int):=by omega
  have h0:(0:Int)≤(i:Int):=by omega
  have hw:IntKind.i64.wrap ((i:Int)+1)=((i+1:Nat):Int):=by have:=uni_l a b;rw[w64 (by omega) (by omega)];rfl
  have hg:(uni a b)[i]?=some (uni a b)[i]:=List.getElem?_eq_getElem hi
  have he:=List.getElem_mem hi
  have ih:=l11b ha hb la lb w k (i+1) (by omega)
  generalize (uni a b)[i]=e at hg he
  have hr:=ens_at hg
  have hG:=(ha.uni hb).2 e he
  have a1:=k26 e hG.2
  have f1:=k36 a (by omega) ha.be (keyE e)
  have f2:=k36 b (by omega) hb.be (keyE e)
  have s0:=k37 e e hG.2
  rw[(sameE_iff e e).2 rfl] at s0
  have c0:=k39 e e hG.2 hG.2
  rw[cmp_self hG] at c0
  simp only[rowE] at a1 s0 c0
  rw[Y_loop (L:=L11_0) rfl]
  rcases un_e ha hb he with ⟨x,p,q,rfl⟩ | ⟨y,p,q,rfl⟩ | ⟨x,y,p,q,⟨rfl,c⟩ | ⟨rfl,c⟩⟩
  ·obtain⟨p1,p2,p3⟩:=fnd_some ha (by omega) p
   rw[p1] at f1
   rw[fnd_none hb (by omega) q] at f2
   have n1:¬ ((plc a (keyE e):Nat):Int) < 0:=by omega
   have n2:(0:Int)≤((plc a (keyE e):Nat):Int):=by omega
   have n3:((plc a (keyE e):Nat):Int) < (a.length:Int):=by omega
   have r1:=ens_at p3
   simp only[go_sem,ens_len,h4,h0,hw,hr,a1,f1,f2,n1,n2,n3,r1,s0,c0,Int.lt_irrefl,decide_false,decide_true]
   exact ih
  ·obtain⟨p1,p2,p3⟩:=fnd_some hb (by omega) q
   rw[p1] at f2
   rw[fnd_none ha (by omega) p] at f1
   have n1:¬ ((plc b (keyE e):Nat):Int) < 0:=by omega
   have n2:(0:Int)≤((plc b (keyE e):Nat):Int):=by omega
   have n3:((plc b (keyE e):Nat):Int) < (b.length:Int):=by omega
   have r1:=ens_at p3
   simp only[go_sem,ens_len,h4,h0,hw,hr,a1,f1,f2,n1,n2,n3,r1,s0,c0,Int.lt_irrefl,decide_false,decide_true]
   exact ih
  ·obtain⟨p1,p2,p3⟩:=fnd_some ha (by omega) p
   obtain⟨q1,q2,q3⟩:=fnd_some hb (by omega) q
   rw[p1] at f1
   rw[q1] at f2
   have n1:¬ ((plc a (keyE e):Nat):Int) < 0:=by omega
   have n2:(0:Int)≤((plc a (keyE e):Nat):Int):=by omega
   have n3:((plc a (keyE e):Nat):Int) < (a.length:Int):=by omega
   have m1:¬ ((plc b (keyE e):Nat):Int) < 0:=by omega
   have m2:(0:Int)≤((plc b (keyE e):Nat):Int):=by omega
   have m3:((plc b (keyE e):Nat):Int) < (b.length:Int):=by omega
   have r1:=ens_at p3
   have r2:=ens_at q3
   have c1:=k39 y e (hb.be y (getM_some q).1) hG.2
   simp only[rowE] at c1
   have c2:¬ 0 < cmpE y e:=by omega
   simp only[go_sem,ens_len,h4,h0,hw,hr,a1,f1,f2,n1,n2,n3,m1,m2,m3,r1,r2,s0,c0,c1,c2,Int.lt_irrefl,decide_false,decide_true]
   exact ih
  ·obtain⟨p1,p2,p3⟩:=fnd_some ha (by omega) p
   obtain⟨q1,q2,q3⟩:=fnd_some hb (by omega) q
   rw[p1] at f1
   rw[q1] at f2
   have n1:¬ ((plc a (keyE e):Nat):Int) < 0:=by omega
   have n2:(0:Int)≤((plc a (keyE e):Nat):Int):=by omega
   have n3:((plc a (keyE e):Nat):Int) < (a.length:Int):=by omega
   have m1:¬ ((plc b (keyE e):Nat):Int) < 0:=by omega
   have m2:(0:Int)≤((plc b (keyE e):Nat):Int):=by omega
   have m3:((plc b (keyE e):Nat):Int) < (b.length:Int):=by omega
   have r1:=ens_at p3
   have r2:=ens_at q3
   have hx:=ha.be x (getM_some p).1
   have c1:=k39 x e hx hG.2
   have s1:=k37 x e hx
   simp only[rowE] at c1 s1
   have c2:¬ 0 < cmpE x e:=by omega
   cases sm:sameE x e with
   | true =>
    rw[sm] at s1
    simp only[go_sem,ens_len,h4,h0,hw,hr,a1,f1,f2,n1,n2,n3,m1,m2,m3,r1,r2,s0,s1,c0,c1,c2,Int.lt_irrefl,decide_false,decide_true]
    exact ih
   | false =>
    rw[sm] at s1
    simp only[go_sem,ens_len,h4,h0,hw,hr,a1,f1,f2,n1,n2,n3,m1,m2,m3,r1,r2,s0,s1,c0,c1,c2,Int.lt_irrefl,decide_false,decide_true]
    exact ih
theorem l11c {u L:List En} (hu:MG u) (lu:u.length≤1000) (lL:L.length≤1000) (hL:∀ e∈L,GE e∧∃ x,getM u (keyE e)=some x):∀ (k i:Nat),i+k=L.length →
  execX G0 L11_1 (ST [(10,.sl .no 8 (ens u)),(25,.bool false),(33,.bool true),(57,.bool false),(58,.sl .no 8 (ens u)),(59,.int .i64 u.length),(60,.int .i64 u.length),(61,.bool false),(131,.sl .own 8 (ens L)),(132,.int .i64 L.length),(133,.int .i64 i)] [] [])=some (.ex 2,(ST [(10,.sl .no 8 (ens u)),(25,.bool false),(33,.bool true),(57,.bool false),(58,.sl .no 8 (ens u)),(59,.int .i64 u.length),(60,.int .i64 u.length),(61,.bool false),(131,.sl .own 8 (ens L)),(132,.int .i64 L.length),(133,.int .i64 L.length),(134,.bool false)] [] []))
 | 0,i,h=>by
  have:i=L.length:=by omega
  subst this
  rw[Y_loop (L:=L11_1) rfl]
  simp only[go_sem,Int.lt_irrefl]
 | k+1,i,h=>by
  have hi:i < L.length:=by omega
  have h4:(i:Int) < (L.length:Int):=by omega
  have h0:(0:Int)≤(i:Int):=by omega
  have hw:IntKind.i64.wrap ((i:Int)+1)=((i+1:Nat):Int):=by rw[w64 (by omega) (by omega)];rfl
  have hg:L[i]?=some L[i]:=List.getElem?_eq_getElem hi
  have he:=hL _ (List.getElem_mem hi)
  have ih:=l11c hu lu lL hL k (i+1) (by omega)
  generalize L[i]=e at hg he
  have hr:=ens_at hg
  obtain⟨hG,x,hx⟩:=he
  have a1:=k24 e hG.2
  have f1:=k35 u (by omega) hu.be (keyE e)
  rw[(fnd_some hu (by omega) hx).1] at f1
  simp only[rowE] at a1
  have n1:¬ ((plc u (keyE e):Nat):Int) < 0:=by omega
  rw[Y_loop (L:=L11_1) rfl]
  simp only[go_sem,ens_len,h4,h0,hw,hr,a1,f1,n1,Int.lt_irrefl,decide_false,decide_true]
  exact ih
theorem l11d {u L:List En} (hu:MG u) (lu:u.length≤1000) (lL:L.length≤1000) (hL:∀ e∈L,GE e∧∃ x,getM u (keyE e)=some x) (w:Int):∀ (k i:Nat),i+k=L.length →
  execX G0 L11_1 (ST [(2,.int .i64 w),(10,.sl .no 8 (ens u)),(25,.bool false),(33,.bool false),(57,.bool false),(58,.sl .no 8 (ens u)),(59,.int .i64 u.length),(60,.int .i64 u.length),(61,.bool false),(131,.sl .own 8 (ens L)),(132,.int .i64 L.length),(133,.int .i64 i)] [] [])=some (.ex 2,(ST [(2,.int .i64 w),(10,.sl .no 8 (ens u)),(25,.bool false),(33,.bool false),(57,.bool false),(58,.sl .no 8 (ens u)),(59,.int .i64 u.length),(60,.int .i64 u.length),(61,.bool false),(131,.sl .own 8 (ens L)),(132,.int .i64 L.length),(133,.int .i64 L.length),(134,.bool false)] [] []))
 | 0,i,h=>by
  have:i=L.length:=by omega
  subst this
  rw[Y_loop (L:=L11_1) rfl]
  simp only[go_sem,Int.lt_irrefl]
 | k+1,i,h=>by
  have hi:i < L.length:=by omega
  have h4:(i:Int) < (L.length:Int):=by omega
  have h0:(0:Int)≤(i:Int):=by omega
  have hw:IntKind.i64.wrap ((i:Int)+1)=((i+1:Nat):Int):=by rw[w64 (by omega) (by omega)];rfl
  have hg:L[i]?=some L[i]:=List.getElem?_eq_getElem hi
  have he:=hL _ (List.getElem_mem hi)
  have ih:=l11d hu lu lL hL w k (i+1) (by omega)
  generalize L[i]=e at hg he
  have hr:=ens_at hg
  obtain⟨hG,x,hx⟩:=he
  have a1:=k24 e hG.2
  have f1:=k35 u (by omega) hu.be (keyE e)
  rw[(fnd_some hu (by omega) hx).1] at f1
  simp only[rowE] at a1
  have n1:¬ ((plc u (keyE e):Nat):Int) < 0:=by omega
  rw[Y_loop (L:=L11_1) rfl]
  simp only[go_sem,ens_len,h4,h0,hw,hr,a1,f1,n1,Int.lt_irrefl,decide_false,decide_true]
  exact ih
theorem in_uni {a b:List En} (ha:MG a) (hb:MG b):∀ e∈a++b,GE e∧∃ x,getM (uni a b) (keyE e)=some x:=by
 intro e he
 rw[get_uni _ a b (Nat.le_refl _) ha.1.2 hb.1.2]
 rcases List.mem_append.1 he with q | q
 ·refine⟨ha.2 e q,?_⟩
  rw[getM_mem ha.1.2 q]
  cases getM b (keyE e) with
  | none=>exact⟨_,rfl⟩
  | some y=>exact⟨_,rfl⟩
 ·refine⟨hb.2 e q,?_⟩
  rw[getM_mem hb.1.2 q]
  cases getM a (keyE e) with
  | none=>exact⟨_,rfl⟩
  | some y=>exact⟨_,rfl⟩
theorem k11 (l m:List Int) (w:Int):G0 11 [.sl .no 1 (ints l),.sl .no 1 (ints m),.int .i64 w] []=some (.bool true,[]):=by
 refine contract F11 rfl rfl rfl ?_
 by_cases g1:(150:Int) < (l.length:Int)
 ·simp only[F11,go_sem,ints_length,g1,k20]
 by_cases g2:(150:Int) < (m.length:Int)
 ·simp only[F11,go_sem,ints_length,g1,g2,k20]
 obtain⟨a,ha,la,a0⟩:=k25 l 5 (by decide)
 obtain⟨b,hb,lb,b0⟩:=k25 m 5 (by decide)
 have c5:((5:Nat):Int)=5:=rfl
 rw[c5] at a0 b0
 have ec:((0:Nat):Int)=0:=rfl
 have lu:=uni_l a b
 by_cases z:a=[]
 ·subst z
  have u1:=un41 ha hb (by simp;omega)
  have x1:=l11b ha hb (by simp) (by omega) w (uni [] b).length 0 (by omega)
  have x2:=l11d (u:=uni [] b) (L:=[]++b) (ha.uni hb) (by simp at lu;omega) (by simp;omega) (in_uni ha hb) w ([]++b).length 0 (by omega)
  rw[ec] at x1 x2
  have p1:=appX (md:=.full) (o:=.no) (by decide) [] [] (by simp)
  simp only[ens_nil,List.nil_append] at u1 x1 x2 p1 a0
  have p2:=appX (md:=.full) (o:=.no) (by decide) [] b (by simp;omega)
  simp only[ens_nil,List.nil_append] at p2
  have p3:=appX (md:=.own) (o:=.no) (by decide) [] b (by simp;omega)
  simp only[ens_nil,List.nil_append] at p3
  simp only[F11,go_sem,ints_length,g1,g2,a0,b0,u1,x1,x2,p1,p2,p3,ens_len,List.length_nil,Int.lt_irrefl,decide_false,k20]
 ·have n0:0 < a.length:=List.length_pos_iff.2 z
  have h0:(0:Int) < (a.length:Int):=by omega
  have q1:=c18 w (a.length:Int) (by omega) (by omega)
  have q2:=c18 w 50 (by decide) (by decide)
  have hb1:=Int.emod_nonneg w (show (a.length:Int)≠0 by omega)
  have hb2:=Int.emod_lt_of_pos w h0
  have hc1:=Int.emod_nonneg w (show (50:Int)≠0 by decide)
  have hc2:=Int.emod_lt_of_pos w (show (0:Int) < 50 by decide)
  have hg:a[(w % (a.length:Int)).toNat]?=some a[(w % (a.length:Int)).toNat]:=List.getElem?_eq_getElem (by omega)
  have hG:=ha.2 _ (List.getElem_mem (show (w % (a.length:Int)).toNat < a.length by omega))
  generalize a[(w % (a.length:Int)).toNat]=e at hg hG
  have hr:=ens_at hg
  generalize w % (a.length:Int)=i at q1 hb1 hb2 hr
  generalize w % 50=c at q2 hc1 hc2
  have hE:=hG.cr hc1 (by omega)
  have b1:=k30 b (by omega) hb.be _ hE.2
  rw[(hb.putE (by omega) hE).1,(hb.putE (by omega) hE).2] at b1
  have hp:=hb.put hE
  have lp:=putM_len b hb.1.2 ⟨e.S,e.T,e.p,e.n,e.a,e.j,c,e.o⟩
  simp only[rowE] at b1
  generalize putM b ⟨e.S,e.T,e.p,e.n,e.a,e.j,c,e.o⟩=d at b1 hp lp
  have u1:=un41 ha hp (by omega)
  have lu:=uni_l a d
  have x1:=l11a ha hp (by omega) (by omega) (uni a d).length 0 (by omega)
  have x2:=l11c (u:=uni a d) (L:=a++d) (ha.uni hp) (by omega) (by simp;omega) (in_uni ha hp) (a++d).length 0 (by omega)
  rw[ec] at x1 x2
  have p1:=appX (md:=.full) (o:=.no) (by decide) [] a (by simp;omega)
  simp only[ens_nil,List.nil_append] at p1
  have p2:=appX (md:=.own) (o:=.no) (by decide) a d (by omega)
  have h0':(0:Int) < (a.length:Int):=by omega
  simp only[F11,go_sem,ints_length,g1,g2,a0,b0,h0',q1,q2,hb1,hb2,hr,b1,u1,x1,x2,p1,p2,ens_len,k20]
end Go.Av
