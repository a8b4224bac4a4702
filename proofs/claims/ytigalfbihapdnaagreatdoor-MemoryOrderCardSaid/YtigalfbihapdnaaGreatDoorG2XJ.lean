/- The law MemoryKeys. No conditions. The law MemoryOrder. No conditions. -/
import Derived.Test.YtigalfbihapdnaaGreatDoorG2XI
set_option linter.unusedSimpArgs false
set_option linter.unusedVariables false
set_option linter.unusedSectionVars false
set_option maxRecDepth 100000
set_option maxHeartbeats 16000000
namespace Go.Av
open Go.Nt
attribute [-go_sem] bin_and
theorem and_ex (a b:Int):∃ v,binA .and (.int .i64 a) (.int .i64 b)=some (.int .i64 v):=⟨_,bin_and _ _ _⟩
end Go.Av
namespace Go.Av
open Go.Nt
theorem cmpB_bd (a b:Bs):-1≤cmpB a b∧cmpB a b≤1:=by
 unfold cmpB
 split
 ·omega
 ·split<;>omega
theorem cmpI_bd (a b:Int):-1≤cmpI a b∧cmpI a b≤1:=by
 unfold cmpI
 split
 ·omega
 ·split<;>omega
theorem lex_bd {f g:En→En→Int} (hf:∀ a b,-1≤f a b∧f a b≤1) (hg:∀ a b,-1≤g a b∧g a b≤1) (a b:En):-1≤lex f g a b∧lex f g a b≤1:=by
 unfold lex
 split
 ·exact hf a b
 ·exact hg a b
theorem cmpE_bd (x y:En):-1≤cmpE x y∧cmpE x y≤1:=by
 unfold cmpE
 exact lex_bd (fun a b=>cmpB_bd _ _) (lex_bd (fun a b=>cmpI_bd _ _) (lex_bd (fun a b=>cmpI_bd _ _) (lex_bd (fun a b=>cmpB_bd _ _) (lex_bd (fun a b=>cmpB_bd _ _) (fun a b=>cmpB_bd _ _))))) x y
theorem GE.mix {a b d:En} (ha:GE a) (hb:GE b) (hd:GE d):GE ⟨a.S,a.T,a.p,a.n,b.a,b.j,d.c,d.o⟩:=
 ⟨⟨ha.1.vS,ha.1.vT,ha.1.ne,ha.1.cS,ha.1.cT,ha.1.pp,ha.1.pn,hb.1.na,hb.1.nj,hd.1.c0,hd.1.c1,hd.1.o1,hd.1.o3⟩,ha.2.S,ha.2.sT,ha.2.T,ha.2.tT,ha.2.p,ha.2.n,hb.2.a,hb.2.j⟩
theorem ord {a b c:En} (ha:GE a) (hb:GE b) (hc:GE c):∃ x y z:Int,G0 39 [.agg (rowE a),.agg (rowE b)] []=some (.int .i64 x,[])∧G0 39 [.agg (rowE b),.agg (rowE a)] []=some (.int .i64 (-x),[])∧G0 39 [.agg (rowE b),.agg (rowE c)] []=some (.int .i64 y,[])∧G0 39 [.agg (rowE a),.agg (rowE c)] []=some (.int .i64 z,[])∧G0 37 [.agg (rowE a),.agg (rowE b)] []=some (.bool (decide (x=0)),[])∧IntKind.i64.wrap (0 - x) = -x∧(x < 0→y≤0→z < 0):=by
 have e1:=k39 a b ha.2 hb.2
 have e2:=k39 b a hb.2 ha.2
 have e3:=k39 b c hb.2 hc.2
 have e4:=k39 a c ha.2 hc.2
 have e5:=k37 a b ha.2
 have t:=cmpE_to.anti a b
 have z:=cmpE_z ha.1 hb.1
 have bd:=cmpE_bd a b
 have lt:=cmpE_to.lt a b c
 rw[t] at e2
 have s:sameE a b=decide (cmpE a b=0):=by
  by_cases q:a=b
  ·rw[(sameE_iff a b).2 q,decide_eq_true (z.2 q)]
  ·rw[decide_eq_false (fun w=>q (z.1 w))]
   cases h:sameE a b with
   | false=>rfl
   | true=>exact absurd ((sameE_iff a b).1 h) q
 rw[s] at e5
 exact⟨_,_,_,e1,e2,e3,e4,e5,by rw[w64 (by omega) (by omega)];omega,fun h1 h2=>lt (by omega) h2 (.inl h1)⟩
theorem k9 (l m n:List Int) (s:Int):G0 9 [.sl .no 1 (ints l),.sl .no 1 (ints m),.sl .no 1 (ints n),.int .i64 s] []=some (.bool true,[]):=by
 refine contract F9 rfl rfl rfl ?_
 by_cases g1:(80:Int) < (l.length:Int)
 ·simp only[F9,go_sem,ints_length,g1,k20]
 by_cases g2:(80:Int) < (m.length:Int)
 ·simp only[F9,go_sem,ints_length,g1,g2,k20]
 by_cases g3:(80:Int) < (n.length:Int)
 ·simp only[F9,go_sem,ints_length,g1,g2,g3,k20]
 obtain⟨a,ha,a0⟩:=k21 l
 obtain⟨b,hb,b0⟩:=k21 m
 obtain⟨c,hc,c0⟩:=k21 n
 obtain⟨v1,h1⟩:=and_ex s 1
 obtain⟨v2,h2⟩:=and_ex s 2
 obtain⟨v4,h4⟩:=and_ex s 4
 simp only[rowE] at a0 b0 c0
 by_cases q1:v1=1
 ·by_cases q2:v2=2
  ·by_cases q4:v4=4
   ·have hB:=GE.mix ha hb ha
    have hC:=GE.mix ha hc hc
    obtain⟨x,y,z,e1,e2,e3,e4,e5,e6,e7⟩:=ord ha hB hC
    simp only[rowE] at e1 e2 e3 e4 e5
    by_cases x0:0≤x
    ·by_cases x1:x=0
     ·subst x1
      simp only[F9,go_sem,ints_length,g1,g2,g3,a0,b0,c0,h1,h2,h4,q1,q2,q4,e1,e2,e3,e4,e5,e6,k20,Int.le_refl,decide_true,beq_self_eq_true]
     ·simp only[F9,go_sem,ints_length,g1,g2,g3,a0,b0,c0,h1,h2,h4,q1,q2,q4,e1,e2,e3,e4,e5,e6,k20,x0,x1,decide_false,beq_self_eq_true]
    have x1:¬ x=0:=fun q=>x0 (by omega)
    by_cases y0:0 < y
    ·simp only[F9,go_sem,ints_length,g1,g2,g3,a0,b0,c0,h1,h2,h4,q1,q2,q4,e1,e2,e3,e4,e5,e6,k20,x0,x1,y0,decide_false,beq_self_eq_true]
    have z0:z < 0:=e7 (by omega) (by omega)
    simp only[F9,go_sem,ints_length,g1,g2,g3,a0,b0,c0,h1,h2,h4,q1,q2,q4,e1,e2,e3,e4,e5,e6,k20,x0,x1,y0,z0,decide_false,beq_self_eq_true]
   ·have hB:=GE.mix ha hb ha
    have hC:=hc
    obtain⟨x,y,z,e1,e2,e3,e4,e5,e6,e7⟩:=ord ha hB hC
    simp only[rowE] at e1 e2 e3 e4 e5
    by_cases x0:0≤x
    ·by_cases x1:x=0
     ·subst x1
      simp only[F9,go_sem,ints_length,g1,g2,g3,a0,b0,c0,h1,h2,h4,q1,q2,q4,e1,e2,e3,e4,e5,e6,k20,Int.le_refl,decide_true,beq_self_eq_true]
     ·simp only[F9,go_sem,ints_length,g1,g2,g3,a0,b0,c0,h1,h2,h4,q1,q2,q4,e1,e2,e3,e4,e5,e6,k20,x0,x1,decide_false,beq_self_eq_true]
    have x1:¬ x=0:=fun q=>x0 (by omega)
    by_cases y0:0 < y
    ·simp only[F9,go_sem,ints_length,g1,g2,g3,a0,b0,c0,h1,h2,h4,q1,q2,q4,e1,e2,e3,e4,e5,e6,k20,x0,x1,y0,decide_false,beq_self_eq_true]
    have z0:z < 0:=e7 (by omega) (by omega)
    simp only[F9,go_sem,ints_length,g1,g2,g3,a0,b0,c0,h1,h2,h4,q1,q2,q4,e1,e2,e3,e4,e5,e6,k20,x0,x1,y0,z0,decide_false,beq_self_eq_true]
  ·by_cases q4:v4=4
   ·have hB:=GE.mix ha hb hb
    have hC:=GE.mix ha hc hc
    obtain⟨x,y,z,e1,e2,e3,e4,e5,e6,e7⟩:=ord ha hB hC
    simp only[rowE] at e1 e2 e3 e4 e5
    by_cases x0:0≤x
    ·by_cases x1:x=0
     ·subst x1
      simp only[F9,go_sem,ints_length,g1,g2,g3,a0,b0,c0,h1,h2,h4,q1,q2,q4,e1,e2,e3,e4,e5,e6,k20,Int.le_refl,decide_true,beq_self_eq_true]
     ·simp only[F9,go_sem,ints_length,g1,g2,g3,a0,b0,c0,h1,h2,h4,q1,q2,q4,e1,e2,e3,e4,e5,e6,k20,x0,x1,decide_false,beq_self_eq_true]
    have x1:¬ x=0:=fun q=>x0 (by omega)
    by_cases y0:0 < y
    ·simp only[F9,go_sem,ints_length,g1,g2,g3,a0,b0,c0,h1,h2,h4,q1,q2,q4,e1,e2,e3,e4,e5,e6,k20,x0,x1,y0,decide_false,beq_self_eq_true]
    have z0:z < 0:=e7 (by omega) (by omega)
    simp only[F9,go_sem,ints_length,g1,g2,g3,a0,b0,c0,h1,h2,h4,q1,q2,q4,e1,e2,e3,e4,e5,e6,k20,x0,x1,y0,z0,decide_false,beq_self_eq_true]
   ·have hB:=GE.mix ha hb hb
    have hC:=hc
    obtain⟨x,y,z,e1,e2,e3,e4,e5,e6,e7⟩:=ord ha hB hC
    simp only[rowE] at e1 e2 e3 e4 e5
    by_cases x0:0≤x
    ·by_cases x1:x=0
     ·subst x1
      simp only[F9,go_sem,ints_length,g1,g2,g3,a0,b0,c0,h1,h2,h4,q1,q2,q4,e1,e2,e3,e4,e5,e6,k20,Int.le_refl,decide_true,beq_self_eq_true]
     ·simp only[F9,go_sem,ints_length,g1,g2,g3,a0,b0,c0,h1,h2,h4,q1,q2,q4,e1,e2,e3,e4,e5,e6,k20,x0,x1,decide_false,beq_self_eq_true]
    have x1:¬ x=0:=fun q=>x0 (by omega)
    by_cases y0:0 < y
    ·simp only[F9,go_sem,ints_length,g1,g2,g3,a0,b0,c0,h1,h2,h4,q1,q2,q4,e1,e2,e3,e4,e5,e6,k20,x0,x1,y0,decide_false,beq_self_eq_true]
    have z0:z < 0:=e7 (by omega) (by omega)
    simp only[F9,go_sem,ints_length,g1,g2,g3,a0,b0,c0,h1,h2,h4,q1,q2,q4,e1,e2,e3,e4,e5,e6,k20,x0,x1,y0,z0,decide_false,beq_self_eq_true]
 ·by_cases q2:v2=2
  ·by_cases q4:v4=4
   ·have hB:=GE.mix hb hb ha
    have hC:=GE.mix hb hc hc
    obtain⟨x,y,z,e1,e2,e3,e4,e5,e6,e7⟩:=ord ha hB hC
    simp only[rowE] at e1 e2 e3 e4 e5
    by_cases x0:0≤x
    ·by_cases x1:x=0
     ·subst x1
      simp only[F9,go_sem,ints_length,g1,g2,g3,a0,b0,c0,h1,h2,h4,q1,q2,q4,e1,e2,e3,e4,e5,e6,k20,Int.le_refl,decide_true,beq_self_eq_true]
     ·simp only[F9,go_sem,ints_length,g1,g2,g3,a0,b0,c0,h1,h2,h4,q1,q2,q4,e1,e2,e3,e4,e5,e6,k20,x0,x1,decide_false,beq_self_eq_true]
    have x1:¬ x=0:=fun q=>x0 (by omega)
    by_cases y0:0 < y
    ·simp only[F9,go_sem,ints_length,g1,g2,g3,a0,b0,c0,h1,h2,h4,q1,q2,q4,e1,e2,e3,e4,e5,e6,k20,x0,x1,y0,decide_false,beq_self_eq_true]
    have z0:z < 0:=e7 (by omega) (by omega)
    simp only[F9,go_sem,ints_length,g1,g2,g3,a0,b0,c0,h1,h2,h4,q1,q2,q4,e1,e2,e3,e4,e5,e6,k20,x0,x1,y0,z0,decide_false,beq_self_eq_true]
   ·have hB:=GE.mix hb hb ha
    have hC:=hc
    obtain⟨x,y,z,e1,e2,e3,e4,e5,e6,e7⟩:=ord ha hB hC
    simp only[rowE] at e1 e2 e3 e4 e5
    by_cases x0:0≤x
    ·by_cases x1:x=0
     ·subst x1
      simp only[F9,go_sem,ints_length,g1,g2,g3,a0,b0,c0,h1,h2,h4,q1,q2,q4,e1,e2,e3,e4,e5,e6,k20,Int.le_refl,decide_true,beq_self_eq_true]
     ·simp only[F9,go_sem,ints_length,g1,g2,g3,a0,b0,c0,h1,h2,h4,q1,q2,q4,e1,e2,e3,e4,e5,e6,k20,x0,x1,decide_false,beq_self_eq_true]
    have x1:¬ x=0:=fun q=>x0 (by omega)
    by_cases y0:0 < y
    ·simp only[F9,go_sem,ints_length,g1,g2,g3,a0,b0,c0,h1,h2,h4,q1,q2,q4,e1,e2,e3,e4,e5,e6,k20,x0,x1,y0,decide_false,beq_self_eq_true]
    have z0:z < 0:=e7 (by omega) (by omega)
    simp only[F9,go_sem,ints_length,g1,g2,g3,a0,b0,c0,h1,h2,h4,q1,q2,q4,e1,e2,e3,e4,e5,e6,k20,x0,x1,y0,z0,decide_false,beq_self_eq_true]
  ·by_cases q4:v4=4
   ·have hB:=GE.mix hb hb hb
    have hC:=GE.mix hb hc hc
    obtain⟨x,y,z,e1,e2,e3,e4,e5,e6,e7⟩:=ord ha hB hC
    simp only[rowE] at e1 e2 e3 e4 e5
    by_cases x0:0≤x
    ·by_cases x1:x=0
     ·subst x1
      simp only[F9,go_sem,ints_length,g1,g2,g3,a0,b0,c0,h1,h2,h4,q1,q2,q4,e1,e2,e3,e4,e5,e6,k20,Int.le_refl,decide_true,beq_self_eq_true]
     ·simp only[F9,go_sem,ints_length,g1,g2,g3,a0,b0,c0,h1,h2,h4,q1,q2,q4,e1,e2,e3,e4,e5,e6,k20,x0,x1,decide_false,beq_self_eq_true]
    have x1:¬ x=0:=fun q=>x0 (by omega)
    by_cases y0:0 < y
    ·simp only[F9,go_sem,ints_length,g1,g2,g3,a0,b0,c0,h1,h2,h4,q1,q2,q4,e1,e2,e3,e4,e5,e6,k20,x0,x1,y0,decide_false,beq_self_eq_true]
    have z0:z < 0:=e7 (by omega) (by omega)
    simp only[F9,go_sem,ints_length,g1,g2,g3,a0,b0,c0,h1,h2,h4,q1,q2,q4,e1,e2,e3,e4,e5,e6,k20,x0,x1,y0,z0,decide_false,beq_self_eq_true]
   ·have hB:=GE.mix hb hb hb
    have hC:=hc
    obtain⟨x,y,z,e1,e2,e3,e4,e5,e6,e7⟩:=ord ha hB hC
    simp only[rowE] at e1 e2 e3 e4 e5
    by_cases x0:0≤x
    ·by_cases x1:x=0
     ·subst x1
      simp only[F9,go_sem,ints_length,g1,g2,g3,a0,b0,c0,h1,h2,h4,q1,q2,q4,e1,e2,e3,e4,e5,e6,k20,Int.le_refl,decide_true,beq_self_eq_true]
     ·simp only[F9,go_sem,ints_length,g1,g2,g3,a0,b0,c0,h1,h2,h4,q1,q2,q4,e1,e2,e3,e4,e5,e6,k20,x0,x1,decide_false,beq_self_eq_true]
    have x1:¬ x=0:=fun q=>x0 (by omega)
    by_cases y0:0 < y
    ·simp only[F9,go_sem,ints_length,g1,g2,g3,a0,b0,c0,h1,h2,h4,q1,q2,q4,e1,e2,e3,e4,e5,e6,k20,x0,x1,y0,decide_false,beq_self_eq_true]
    have z0:z < 0:=e7 (by omega) (by omega)
    simp only[F9,go_sem,ints_length,g1,g2,g3,a0,b0,c0,h1,h2,h4,q1,q2,q4,e1,e2,e3,e4,e5,e6,k20,x0,x1,y0,z0,decide_false,beq_self_eq_true]
end Go.Av
