/- The union of two memories, by both packages. No conditions. The reference's union of two memories. No conditions. The laws MemoryUnites and MemoryGreater. No conditions. -/
import Derived.Test.YtigalfbihapdnaaGreatDoorG4XI
set_option linter.unusedSimpArgs false
set_option linter.unusedVariables false
set_option linter.unusedSectionVars false
set_option maxRecDepth 100000
set_option maxHeartbeats 16000000
namespace Go.Av
open Go.Nt
def iv (c:List Int):List AV:=c.map (AV.int .i64)
theorem iv_at {c:List Int} {i:Nat} {x:Int} (h:c[i]?=some x):(iv c)[i]?=some (.int .i64 x):=by simp [iv,h]
theorem iv_len (c:List Int):(iv c).length=c.length:=by simp [iv]
theorem l40k (c:List Int) (hl:c.length=6):∀ (k i:Nat),i+k=6 →
  (orF (c.drop i)=0→∃ l',execX G0 L40_0 (ST [(51,.agg (iv c)),(52,.int .i64 i)] [] [])=some (.ex 0,ST l' [] [])) ∧
  (orF (c.drop i)≠0→∃ l',execX G0 L40_0 (ST [(51,.agg (iv c)),(52,.int .i64 i)] [] [])=some (.ret,ST l' [] [])∧look .any l' 4=.int .i64 (orF (c.drop i)))
 | 0,i,h=>by
  have:i=6:=by omega
  subst this
  have e:c.drop 6=[]:=List.drop_of_length_le (by omega)
  have c6:((6:Nat):Int)=6:=rfl
  rw[e,c6]
  refine⟨fun _=>?_,fun h=>(by simp [orF] at h)⟩
  refine Exists.intro ?_ ?_
  rotate_left 1
  rw[Y_loop (L:=L40_0) rfl]
  simp only[go_sem,Int.lt_irrefl]
  rfl
 | k+1,i,h=>by
  have hi:i < c.length:=by omega
  have h4:(i:Int) < 6:=by omega
  have h0:(0:Int)≤(i:Int):=by omega
  have hw:IntKind.i64.wrap ((i:Int)+1)=((i+1:Nat):Int):=by rw[w64 (by omega) (by omega)];rfl
  have hg:c[i]?=some c[i]:=List.getElem?_eq_getElem hi
  have hd:c.drop i=c[i] :: c.drop (i+1):=List.drop_eq_getElem_cons hi
  generalize c[i]=a at hg hd
  have hr:=iv_at hg
  have hL:(iv c).length=6:=by rw[iv_len,hl]
  have ih:=l40k c hl k (i+1) (by omega)
  rw[hd]
  by_cases q:a=0
  ·have e:orF (a :: c.drop (i+1))=orF (c.drop (i+1)):=by simp [orF,q]
   rw[e]
   have step:execX G0 L40_0 (ST [(51,.agg (iv c)),(52,.int .i64 i)] [] [])=execX G0 L40_0 (ST [(51,.agg (iv c)),(52,.int .i64 ((i+1:Nat):Int))] [] []):=by
    conv=>lhs;rw[Y_loop (L:=L40_0) rfl]
    simp only[go_sem,h4,h0,hr,hw,hL,q,Int.toNat_natCast,Nat.mul_one,ne_eq,not_true_eq_false,decide_false]
   rw[step]
   exact ih
  ·have e:orF (a :: c.drop (i+1))=a:=by simp [orF,q]
   rw[e]
   refine⟨fun z=>absurd z q,fun _=>?_⟩
   refine Exists.intro ?_ (And.intro ?_ ?_)
   rotate_left 1
   ·rw[Y_loop (L:=L40_0) rfl]
    simp only[go_sem,h4,h0,hr,hw,hL,q,Int.toNat_natCast,Nat.mul_one,ne_eq,not_false_eq_true,decide_true]
    rfl
   ·rfl
theorem k40 (x y:En) (hx:BE x) (hy:BE y):G0 40 [.agg (rowE x),.agg (rowE y)] []=some (.int .i64 (cmpE x y),[]):=by
 obtain⟨l1,l2,l3⟩:=hx.lT
 obtain⟨m1,m2,m3⟩:=hy.lT
 have a1:=c33 x.T (by omega) l3
 have a2:=c33 y.T (by omega) m3
 rw[fmE_eq] at a1 a2
 have b1:=k26 x hx
 have b2:=k26 y hy
 simp only[rowE] at b1 b2
 have d1:=k83 (keyE x) (keyE y)
 have d2:=k84 x.c y.c
 have d3:=k84 y.o x.o
 have d4:=k83 x.a y.a
 have d5:=k83 x.j y.j
 have d6:=k83 (fmE x.T) (fmE y.T)
 have e:=cmpE_or x y
 obtain⟨x1,x2⟩:=l40k [cmpB (keyE x) (keyE y),cmpI x.c y.c,cmpI y.o x.o,cmpB x.a y.a,cmpB x.j y.j,cmpB (fmE x.T) (fmE y.T)] rfl 6 0 (by omega)
 have ec:((0:Nat):Int)=0:=rfl
 rw[List.drop_zero,ec,← e] at x1 x2
 simp only[iv,List.map_cons,List.map_nil] at x1 x2
 refine contract F40 rfl rfl rfl ?_
 by_cases q:cmpE x y=0
 ·obtain⟨l',y1⟩:=x1 q
  rw[q]
  simp only[F40,rowE,go_sem,a1,a2,b1,b2,d1,d2,d3,d4,d5,d6,y1,look_kill,look_setl,List.not_mem_nil,if_true,if_false]
 ·obtain⟨l',y1,y2⟩:=x2 q
  simp only[F40,rowE,go_sem,a1,a2,b1,b2,d1,d2,d3,d4,d5,d6,y1,y2]
end Go.Av
namespace Go.Av
open Go.Nt
end Go.Av
namespace Go.Av
open Go.Nt
end Go.Av
