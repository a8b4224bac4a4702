/- The union of two memories, by both packages. No conditions. The reference's union of two memories. No conditions. The laws MemoryUnites and MemoryGreater. No conditions. -/
import Derived.Test.YtigalfbihapdnaaGreatDoorG3XI
set_option linter.unusedSimpArgs false
set_option linter.unusedVariables false
set_option linter.unusedSectionVars false
set_option maxRecDepth 100000
set_option maxHeartbeats 16000000
namespace Go.Av
open Go.Nt
theorem jn_at {m:List En} {i:Nat} {e:En} (h:m[i]?=some e):(strs (m.map joinE))[i]?=some [.str (joinE e)]:=strs_at (by rw[List.getElem?_map,h];rfl)
theorem l41k (a b:List En) (la:a.length≤1024) (lb:b.length≤1024) (ma:Mem a) (mb:Mem b) (hA:∀ e∈a,BE e) (hB:∀ e∈b,BE e):∀ (n i j:Nat) (out:List En) (md:Own),i≤a.length→j≤b.length→(a.length - i)+(b.length - j)≤n→out.length≤i+j→md≠.no →
  ∃ md',execX G0 L41_0 (ST [(0,.sl .no 8 (ens a)),(1,.sl .no 8 (ens b)),(6,.sl .no 1 (strs (a.map joinE))),(8,.sl .no 1 (strs (b.map joinE))),(10,.sl md 8 (ens out)),(11,.int .i64 i),(12,.int .i64 j),(29,.bool false)] [] [])=some (.ex 0,ST [(0,.sl .no 8 (ens a)),(1,.sl .no 8 (ens b)),(6,.sl .no 1 (strs (a.map joinE))),(8,.sl .no 1 (strs (b.map joinE))),(10,.sl md' 8 (ens (out++uni (a.drop i) (b.drop j)))),(11,.int .i64 a.length),(12,.int .i64 b.length),(29,.bool false),(39,.bool false)] [] [])
 | n,i,j,out,md,hi,hj,hn,ho,hm=>by
  by_cases qi:i=a.length
  ·by_cases qj:j=b.length
   ·subst qi;subst qj
    refine⟨md,?_⟩
    rw[List.drop_length,List.drop_length,uni_nil,List.append_nil]
    rw[Y_loop (L:=L41_0) rfl]
    simp only[go_sem,ens_len,Int.lt_irrefl,decide_false]
   ·subst qi
    cases n with
    | zero=>omega
    | succ n =>
     have hj2:j < b.length:=by omega
     have hg:b[j]?=some b[j]:=List.getElem?_eq_getElem hj2
     have hd:b.drop j=b[j] :: b.drop (j+1):=List.drop_eq_getElem_cons hj2
     have hBe:=hB _ (List.getElem_mem hj2)
     generalize b[j]=y at hg hd hBe
     have hr:=ens_at hg
     have a1:=k69 y hBe
     simp only[rowE] at a1
     have p:=appX (o:=.full) hm out [y] (by simp;omega)
     obtain⟨md',ih⟩:=l41k a b la lb ma mb hA hB n a.length (j+1) (out++[y]) .own (Nat.le_refl _) hj2 (by omega) (by simp;omega) (by decide)
     refine⟨md',?_⟩
     rw[List.drop_length,nil_uni] at ih ⊢
     rw[hd]
     rw[List.append_assoc] at ih
     have h4:(j:Int) < (b.length:Int):=by omega
     have h5:((j:Int)=(b.length:Int))=False:=eq_false (by omega)
     have h0:(0:Int)≤(j:Int):=by omega
     have hw:IntKind.i64.wrap ((j:Int)+1)=((j+1:Nat):Int):=by rw[w64 (by omega) (by omega)];rfl
     rw[Y_loop (L:=L41_0) rfl]
     simp only[go_sem,ens_len,Int.lt_irrefl,decide_false,decide_true,h4,h5,h0,hw,hr,a1,mks8,ens_one,p]
     exact ih
  ·have hi2:i < a.length:=by omega
   have hg:a[i]?=some a[i]:=List.getElem?_eq_getElem hi2
   have hd:a.drop i=a[i] :: a.drop (i+1):=List.drop_eq_getElem_cons hi2
   have hBe:=hA _ (List.getElem_mem hi2)
   have hV:=ma.1 _ (List.getElem_mem hi2)
   generalize a[i]=x at hg hd hBe hV
   have hr:=ens_at hg
   have hs:=jn_at hg
   have a1:=k69 x hBe
   simp only[rowE] at a1
   have p:=appX (o:=.full) hm out [x] (by simp;omega)
   have h4:(i:Int) < (a.length:Int):=by omega
   have h5:((i:Int)=(a.length:Int))=False:=eq_false (by omega)
   have h0:(0:Int)≤(i:Int):=by omega
   have hw:IntKind.i64.wrap ((i:Int)+1)=((i+1:Nat):Int):=by rw[w64 (by omega) (by omega)];rfl
   cases n with
   | zero=>omega
   | succ n =>
   by_cases qj:j=b.length
   ·subst qj
    obtain⟨md',ih⟩:=l41k a b la lb ma mb hA hB n (i+1) b.length (out++[x]) .own (by omega) (Nat.le_refl _) (by omega) (by simp;omega) (by decide)
    refine⟨md',?_⟩
    rw[List.drop_length,uni_nil] at ih ⊢
    rw[hd]
    rw[List.append_assoc] at ih
    rw[Y_loop (L:=L41_0) rfl]
    simp only[go_sem,ens_len,Int.lt_irrefl,decide_false,decide_true,h4,h5,h0,hw,hr,a1,mks8,ens_one,p]
    exact ih
   ·have hj2:j < b.length:=by omega
    have gg:b[j]?=some b[j]:=List.getElem?_eq_getElem hj2
    have gd:b.drop j=b[j] :: b.drop (j+1):=List.drop_eq_getElem_cons hj2
    have gBe:=hB _ (List.getElem_mem hj2)
    have gV:=mb.1 _ (List.getElem_mem hj2)
    generalize b[j]=y at gg gd gBe gV
    have gr:=ens_at gg
    have gs:=jn_at gg
    have b1:=k69 y gBe
    simp only[rowE] at b1
    have pb:=appX (o:=.full) hm out [y] (by simp;omega)
    have g4:(j:Int) < (b.length:Int):=by omega
    have g5:((j:Int)=(b.length:Int))=False:=eq_false (by omega)
    have g0:(0:Int)≤(j:Int):=by omega
    have gw:IntKind.i64.wrap ((j:Int)+1)=((j+1:Nat):Int):=by rw[w64 (by omega) (by omega)];rfl
    have u:=uni_cons x y (a.drop (i+1)) (b.drop (j+1))
    rw[← hd,← gd,← key_joinV hV,← key_joinV gV] at u
    cases q1:ltB (joinE x) (joinE y) with
    | true =>
     obtain⟨md',ih⟩:=l41k a b la lb ma mb hA hB n (i+1) j (out++[x]) .own (by omega) (by omega) (by omega) (by simp;omega) (by decide)
     refine⟨md',?_⟩
     rw[u,if_pos q1]
     rw[List.append_assoc] at ih
     rw[Y_loop (L:=L41_0) rfl]
     simp only[go_sem,ens_len,decide_false,decide_true,h4,h5,h0,hw,hr,hs,g4,g5,g0,gr,gs,ltB_def,q1,a1,mks8,ens_one,p]
     exact ih
    | false =>
     cases q2:ltB (joinE y) (joinE x) with
     | true =>
      obtain⟨md',ih⟩:=l41k a b la lb ma mb hA hB n i (j+1) (out++[y]) .own (by omega) (by omega) (by omega) (by simp;omega) (by decide)
      refine⟨md',?_⟩
      rw[u,if_neg (by rw[q1];decide),if_pos q2]
      rw[List.append_assoc] at ih
      rw[Y_loop (L:=L41_0) rfl]
      simp only[go_sem,ens_len,decide_false,decide_true,h4,h5,h0,gw,hr,hs,g4,g5,g0,gr,gs,ltB_def,q1,q2,b1,mks8,ens_one,pb]
      exact ih
     | false =>
      have c:=k39 x y hBe gBe
      simp only[rowE] at c
      by_cases q3:cmpE x y < 0
      ·obtain⟨md',ih⟩:=l41k a b la lb ma mb hA hB n (i+1) (j+1) (out++[y]) .own (by omega) (by omega) (by omega) (by simp;omega) (by decide)
       refine⟨md',?_⟩
       rw[u,if_neg (by rw[q1];decide),if_neg (by rw[q2];decide),if_pos q3]
       rw[List.append_assoc] at ih
       rw[Y_loop (L:=L41_0) rfl]
       simp only[go_sem,ens_len,decide_false,decide_true,h4,h5,h0,hw,gw,hr,hs,g4,g5,g0,gr,gs,ltB_def,q1,q2,q3,c,b1,mks8,ens_one,pb]
       exact ih
      ·obtain⟨md',ih⟩:=l41k a b la lb ma mb hA hB n (i+1) (j+1) (out++[x]) .own (by omega) (by omega) (by omega) (by simp;omega) (by decide)
       refine⟨md',?_⟩
       rw[u,if_neg (by rw[q1];decide),if_neg (by rw[q2];decide),if_neg q3]
       rw[List.append_assoc] at ih
       rw[Y_loop (L:=L41_0) rfl]
       simp only[go_sem,ens_len,decide_false,decide_true,h4,h5,h0,hw,gw,hr,hs,g4,g5,g0,gr,gs,ltB_def,q1,q2,q3,c,a1,mks8,ens_one,p]
       exact ih
def uniE (a b:List En):Int:=if okM a=true∧okM b=true then (if (uni a b).length≤1024 then 0 else 3) else 1
def uniV (a b:List En):List En:=if uniE a b=0 then uni a b else []
theorem uniE_1 {a b:List En} (h:¬ (okM a=true∧okM b=true)):uniE a b=1∧uniV a b=[]:=by
 have:uniE a b=1:=by unfold uniE;rw[if_neg h]
 exact⟨this,by unfold uniV;rw[this];rfl⟩
theorem uniE_0 {a b:List En} (h:okM a=true) (h2:okM b=true) (hl:(uni a b).length≤1024):uniE a b=0∧uniV a b=uni a b:=by
 have:uniE a b=0:=by unfold uniE;rw[if_pos ⟨h,h2⟩,if_pos hl]
 exact⟨this,by unfold uniV;rw[this];rfl⟩
theorem uniE_3 {a b:List En} (h:okM a=true) (h2:okM b=true) (hl:¬ (uni a b).length≤1024):uniE a b=3∧uniV a b=[]:=by
 have:uniE a b=3:=by unfold uniE;rw[if_pos ⟨h,h2⟩,if_neg hl]
 exact⟨this,by unfold uniV;rw[this];rfl⟩
theorem k41 (a b:List En) (la:a.length≤2000) (lb:b.length≤2000) (hA:∀ e∈a,BE e) (hB:∀ e∈b,BE e):G0 41 [.sl .no 8 (ens a),.sl .no 8 (ens b)] []=some (.tup [.sl .no 8 (ens (uniV a b)),.int .i64 (uniE a b)],[]):=by
 have a1:=k66 a la hA
 have b1:=k66 b lb hB
 refine contract F41 rfl rfl rfl ?_
 cases qa:okM a with
 | false =>
  rw[qa] at a1
  rw[(uniE_1 (by simp [qa])).1,(uniE_1 (by simp [qa])).2]
  simp only[F41,go_sem,a1,b1,Bool.not_false]
  rfl
 | true =>
 rw[qa] at a1
 cases qb:okM b with
 | false =>
  rw[qb] at b1
  rw[(uniE_1 (by simp [qb])).1,(uniE_1 (by simp [qb])).2]
  simp only[F41,go_sem,a1,b1,Bool.not_false,Bool.not_true]
  rfl
 | true =>
  rw[qb] at b1
  obtain⟨h1,h2⟩:=(okM_iff a).1 qa
  obtain⟨h3,h4⟩:=(okM_iff b).1 qb
  obtain⟨md',x⟩:=l41k a b h1 h3 h2 h4 hA hB (a.length+b.length) 0 0 [] .full (by omega) (by omega) (by omega) (by simp) (by decide)
  have ec:((0:Nat):Int)=0:=rfl
  rw[List.drop_zero,List.drop_zero,ec,List.nil_append,ens_nil] at x
  simp only[if_true] at a1 b1
  by_cases q:(uni a b).length≤1024
  ·have q':¬ (1024:Int) < ((uni a b).length:Int):=by omega
   rw[(uniE_0 qa qb q).1,(uniE_0 qa qb q).2]
   simp only[F41,go_sem,a1,b1,Bool.not_true,x,ens_len,q']
  ·have q':(1024:Int) < ((uni a b).length:Int):=by omega
   rw[(uniE_3 qa qb q).1,(uniE_3 qa qb q).2]
   simp only[F41,go_sem,a1,b1,Bool.not_true,x,ens_len,q']
   rfl
end Go.Av
namespace Go.Av
open Go.Nt
def updE (out:List En) (e:En):List En:=match getM out (keyE e) with
 | none=>putM out e
 | some x=>if cmpE x e < 0 then putM out e else out
theorem upd_sr {out:List En} (h:Sr out) (e:En):Sr (updE out e):=by
 unfold updE
 split
 ·exact sr_put h e
 ·split
  ·exact sr_put h e
  ·exact h
theorem mxE_none (x:Option En):mxE x none=x:=by cases x<;>rfl
theorem get_upd {out:List En} (h:Sr out) (e:En) (k:Bs):getM (updE out e) k=if k=keyE e then mxE (getM out k) (some e) else getM out k:=by
 unfold updE
 cases hg:getM out (keyE e) with
 | none =>
  simp only[]
  rw[get_put h]
  by_cases q:k=keyE e
  ·rw[if_pos q,if_pos q,q,hg];rfl
  ·rw[if_neg q,if_neg q]
 | some x =>
  simp only[]
  by_cases c:cmpE x e < 0
  ·rw[if_pos c,get_put h]
   by_cases q:k=keyE e
   ·rw[if_pos q,if_pos q,q,hg]
    show _=some (if cmpE x e < 0 then e else x)
    rw[if_pos c]
   ·rw[if_neg q,if_neg q]
  ·rw[if_neg c]
   by_cases q:k=keyE e
   ·rw[if_pos q,q,hg]
    show _=some (if cmpE x e < 0 then e else x)
    rw[if_neg c]
   ·rw[if_neg q]
theorem get_fold:∀ (b a:List En),Sr a→Sr b→∀ k,getM (b.foldl updE a) k=mxE (getM a k) (getM b k)
 | [],a,ha,hb,k=>(mxE_none _).symm
 | y :: b,a,ha,hb,k=>by
  rw[List.foldl_cons,get_fold b (updE a y) (upd_sr ha y) (List.pairwise_cons.1 hb).2,get_upd ha,getM_cons]
  by_cases q:k=keyE y
  ·rw[if_pos q,if_pos q.symm,q,getM_tail hb,mxE_none]
  ·rw[if_neg q,if_neg (fun z=>q z.symm)]
theorem fold_sr:∀ (b a:List En),Sr a→Sr (b.foldl updE a)
 | [],a,h=>h
 | y :: b,a,h=>fold_sr b _ (upd_sr h y)
theorem uni_fold {a b:List En} (ha:Mem a) (hb:Mem b):b.foldl updE a=uni a b:=
 mem_ext (fold_sr b a ha.2) (uni_mem ha hb).2 fun k=>by rw[get_fold b a ha.2 hb.2,get_uni _ a b (Nat.le_refl _) ha.2 hb.2]
end Go.Av
namespace Go.Av
open Go.Nt
theorem MG.uni {a b:List En} (ha:MG a) (hb:MG b):MG (uni a b):=⟨uni_mem ha.1 hb.1,fun e he=>by
 rcases uni_sub _ a b (Nat.le_refl _) e he with q | q
 ·exact ha.2 e q
 ·exact hb.2 e q⟩
end Go.Av
