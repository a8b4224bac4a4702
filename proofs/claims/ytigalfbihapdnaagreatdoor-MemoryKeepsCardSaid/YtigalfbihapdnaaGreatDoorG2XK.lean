/- The law MemoryExchanges. No conditions. Deleting an entry; the law MemoryKeeps. No conditions. -/
import Derived.Test.YtigalfbihapdnaaGreatDoorG2XI
set_option linter.unusedSimpArgs false
set_option linter.unusedVariables false
set_option linter.unusedSectionVars false
set_option maxRecDepth 100000
set_option maxHeartbeats 16000000
namespace Go.Av
open Go.Nt
theorem pt27 {m:List En} (h:MG m) (hl:m.length < 1024) {e:En} (he:GE e):G0 27 [.sl .no 8 (ens m),.agg (rowE e)] []=some (.tup [.sl .no 8 (ens (putM m e)),.int .i64 0],[]):=by
 have b:=k27 m (by omega) h.be e he.2
 rw[(h.putE hl he).1,(h.putE hl he).2] at b
 exact b
theorem k5 (l m n:List Int):G0 5 [.sl .no 1 (ints l),.sl .no 1 (ints m),.sl .no 1 (ints n)] []=some (.bool true,[]):=by
 refine contract F5 rfl rfl rfl ?_
 by_cases g1:(150:Int) < (l.length:Int)
 ·simp only[F5,go_sem,ints_length,g1,k20]
 by_cases g2:(80:Int) < (m.length:Int)
 ·simp only[F5,go_sem,ints_length,g1,g2,k20]
 by_cases g3:(80:Int) < (n.length:Int)
 ·simp only[F5,go_sem,ints_length,g1,g2,g3,k20]
 obtain⟨a,ha,la,a0⟩:=k25 l 5 (by decide)
 obtain⟨e,he,e0⟩:=k21 m
 obtain⟨f,hf,f0⟩:=k21 n
 have c5:((5:Nat):Int)=5:=rfl
 rw[c5] at a0
 have e1:=k26 e he.2
 have f1:=k26 f hf.2
 simp only[rowE] at e0 f0 e1 f1
 by_cases q:keyE e=keyE f
 ·have q':(keyE e == keyE f)=true:=by simpa using q
  simp only[F5,go_sem,ints_length,g1,g2,g3,a0,e0,f0,e1,f1,q',k20]
 have q':(keyE e == keyE f)=false:=by simpa using q
 have p1:=putM_len a ha.1.2 e
 have p2:=putM_len a ha.1.2 f
 have hb:=ha.put he
 have hd:=ha.put hf
 have p3:=putM_len _ hb.1.2 f
 have b1:=pt27 ha (by omega) he
 have b2:=pt27 hb (by omega) hf
 have b3:=pt27 ha (by omega) hf
 have b4:=pt27 hd (by omega) he
 rw[← put_comm ha.1.2 q] at b4
 have b5:=k28 (putM (putM a e) f) (by omega) (hb.put hf).be
 simp only[rowE] at b1 b2 b3 b4
 simp only[F5,go_sem,ints_length,g1,g2,g3,a0,e0,f0,e1,f1,q',b1,b2,b3,b4,b5,k20]
end Go.Av
namespace Go.Av
open Go.Nt
abbrev zf8:List AV:=[AV.sl Own.full 3 [],AV.sl Own.full 3 [],AV.str [],AV.str [],AV.str [],AV.str [],AV.int IntKind.i64 0,AV.int IntKind.i64 0]
theorem drop_len {m:List En} {i:Nat}:(cls (m.drop i)).length=(m.length - i)*8:=by rw[cls_len,List.length_drop]
theorem cls_drop (m:List En) (i:Nat) (hi:i≤m.length):(cls m).drop (i*8)=cls (m.drop i):=by
 conv=>lhs;rw[cls_split m i]
 rw[← take_len hi,List.drop_left]
theorem k73 (m:List En) (hl:m.length≤2000) (i:Nat) (hi:i < m.length):G0 73 [.ss m.length 0 m.length 8,.int .i64 i,.int .i64 ((i+1:Nat):Int)] (List.replicate m.length dead++[cls m])=some (.ss m.length 0 (m.length - 1) 8,List.replicate m.length dead++[cls (m.take i++m.drop (i+1))++zf8]):=by
 have hW:(m.take i++m.drop (i+1)).length=m.length - 1:=by simp;omega
 have a0:(0:Int)≤(i:Int):=by omega
 have a1:(i:Int)≤((i+1:Nat):Int):=by omega
 have a2:((i+1:Nat):Int)≤(m.length:Int):=by omega
 have a3:((i:Int)=((i+1:Nat):Int))=False:=eq_false (by omega)
 have a4:(i:Int)≤(m.length:Int):=by omega
 have a5:(0:Int)≤((i+1:Nat):Int):=by omega
 have a6:(((i+1:Nat):Int)=0)=False:=eq_false (by omega)
 have hsum:i+(m.length - (i+1))=m.length - 1:=by omega
 obtain⟨c',hc'⟩:∃ c',c'=cls (m.take i++m.drop (i+1))++cls (m.drop (m.length - 1)):=⟨_,rfl⟩
 have hcl:c'.length=m.length*8:=by rw[hc',List.length_append,cls_len,hW,drop_len];omega
 have hput:putC (i*8) (ens (m.drop (i+1))).flatten (cls m)=some c':=by
  have hp:=putC_app (cls (m.take i)) (cls (m.drop i)) (cls (m.drop (i+1))) (by rw[drop_len,drop_len];omega)
  have e3:(cls (m.drop i)).drop (cls (m.drop (i+1))).length=cls (m.drop (m.length - 1)):=by
   rw[drop_len,cls_drop _ _ (by simp;omega),List.drop_drop]
   congr 2
  rw[take_len (by omega),← cls_split,e3] at hp
  rw[hc',cls_app]
  exact hp
 have hblk:blkB c'=true:=by
  rw[hc',← cls_app];exact cls_blk _
 have happ:appCA 8 (List.replicate m.length dead++[cls m]) (some (ens (m.drop (i+1)))) (.ss m.length 0 i 8)=some (.ss m.length 0 (m.length - 1) 8,List.replicate m.length dead++[c']):=by
  have:=appCA_some (sh:=List.replicate m.length dead++[cls m]) (o:=m.length) (n:=i) (l2:=ens (m.drop (i+1))) (z:=8) (by decide) (cells:=cls m) (rD _ _) (cls_blk m) (by rw[ens_len,List.length_drop,cls_len];omega) hput
  rw[this,ens_len,List.length_drop,hsum,rS]
 have hslx:=slxA_both (sh:=List.replicate m.length dead++[c']) (z:=8) (by decide) (o:=m.length) (off:=0) (n:=m.length - 1) (k:=.i64) (k':=.i64) (i:=m.length - 1) (j:=m.length) (cells:=c') (rD _ _) hblk (by rw[hcl];omega) (by omega)
 rw[Nat.zero_add,show m.length - (m.length - 1)=1 by omega] at hslx
 have hclr:putC ((m.length - 1)*8) (zeroRow zf8 1) c'=some (cls (m.take i++m.drop (i+1))++zf8):=by
  have hp:=putC_app (cls (m.take i++m.drop (i+1))) (cls (m.drop (m.length - 1))) zf8 (by rw[drop_len];simp;omega)
  have e4:(cls (m.drop (m.length - 1))).drop zf8.length=[]:=List.drop_of_length_le (by rw[drop_len];simp;omega)
  rw[cls_len,hW,e4,List.append_nil,← hc'] at hp
  exact hp
 have hrow:rowsC ((i+1)*8) (m.length - (i+1)) 8 (cls m)=some (ens (m.drop (i+1))):=by
  have:=rowsC_mid (m.take (i+1)) (m.drop (i+1)) []
  rw[List.append_nil,List.take_append_drop,List.length_take,List.length_drop,Nat.min_eq_left (by omega)] at this
  exact this
 refine contract F73 rfl rfl rfl ?_
 by_cases hlast:((i+1:Nat):Int) < (m.length:Int)
 ·simp only[F73,go_sem,a0,a1,a2,a3,a4,a5,a6,hlast,or_true,or_false,Int.le_refl,Int.toNat_natCast,Nat.zero_add,rD,rS,hrow,happ,hslx,clrX_ss,hblk,hclr]
 ·have hdn:ens (m.drop (i+1))=[]:=by rw[List.drop_eq_nil_of_le (by omega)];rfl
  rw[hdn] at happ
  simp only[F73,go_sem,a0,a1,a2,a3,a4,a5,a6,hlast,or_false,Int.le_refl,Int.toNat_natCast,Nat.zero_add,rD,rS,happ,hslx,clrX_ss,hblk,hclr]
theorem rowsC_pre {m:List En} {n:Nat} (h:m.length=n) (X:List AV):rowsC 0 n 8 (cls m++X)=some (ens m):=by
 have:=rowsC_seg (z:=8) (by decide) [] (cls m) X m.length (cls_len m) (cls_flat m)
 rw[List.nil_append,rowsOf_cls,h] at this
 exact this
theorem cls_blk8 (m:List En) (X:List AV):blkB (cls m++zf8)=true:=by
 cases m with
 | nil=>rfl
 | cons e m=>rw[cls_cons];rfl
def hasM (m:List En) (k:Bs):Bool:=okM m && (getM m k).isSome
theorem k33 (m:List En) (hl:m.length≤2000) (hB:∀ e∈m,BE e) (k:Bs):G0 33 [.sl .no 8 (ens m),.str k] []=some (.tup [.sl .no 8 (ens (if hasM m k=true then delM m k else [])),.bool (hasM m k)],[]):=by
 have a1:=k35 m hl hB k
 unfold fndI at a1
 unfold hasM
 refine contract F33 rfl rfl rfl ?_
 cases hq:okM m with
 | false =>
  rw[hq] at a1
  simp only[Bool.false_eq_true,if_false] at a1
  simp only[F33,go_sem,a1,Bool.false_and,Bool.false_eq_true,Int.reduceLT,decide_true]
  rfl
 | true =>
  rw[hq] at a1
  simp only[if_true] at a1
  obtain⟨h1,h2⟩:=(okM_iff m).1 hq
  cases hg:getM m k with
  | none =>
   rw[hg] at a1
   simp only[] at a1
   simp only[F33,go_sem,a1,Option.isSome_none,Bool.and_false,Bool.false_eq_true,Int.reduceLT,decide_true]
   rfl
  | some x =>
   rw[hg] at a1
   simp only[] at a1
   have q:=plc_lt h2 hg
   have hs:=split_some h2.2 hg
   have e1:m.take (plc m k)++m.drop (plc m k+1)=delM m k:=by
    unfold delM plc
    generalize bel k m=B at *
    generalize abv k m=A at *
    subst hs
    simp
   have a2:=k68 m hl hB
   have a3:=k73 m hl (plc m k) q
   rw[e1] at a3
   have hlen:(delM m k).length=m.length - 1:=by
    rw[← e1];simp;omega
   have hr:=rowsC_pre hlen zf8
   have hb:=cls_blk8 (delM m k) zf8
   have n0:¬ ((plc m k:Nat):Int) < 0:=by omega
   have hw:IntKind.i64.wrap (((plc m k:Nat):Int)+1)=((plc m k+1:Nat):Int):=by rw[w64 (by omega) (by omega)];rfl
   simp only[F33,go_sem,a1,n0,hw,a2,a3,Option.isSome_some,Bool.and_true,rD,hr,hb,Nat.zero_le]
theorem k7 (l m:List Int):G0 7 [.sl .no 1 (ints l),.sl .no 1 (ints m)] []=some (.bool true,[]):=by
 refine contract F7 rfl rfl rfl ?_
 by_cases g1:(200:Int) < (l.length:Int)
 ·simp only[F7,go_sem,ints_length,g1,k20]
 by_cases g2:(80:Int) < (m.length:Int)
 ·simp only[F7,go_sem,ints_length,g1,g2,k20]
 obtain⟨a,ha,la,a0⟩:=k25 l 6 (by decide)
 obtain⟨e,he,e0⟩:=k21 m
 have c6:((6:Nat):Int)=6:=rfl
 rw[c6] at a0
 have hb:=ha.put he
 have lb:=putM_len a ha.1.2 e
 have b1:=pt27 ha (by omega) he
 have b2:=k24 e he.2
 have b3:=k35 (putM a e) (by omega) hb.be (keyE e)
 have hg:getM (putM a e) (keyE e)=some e:=by rw[get_put ha.1.2,if_pos rfl]
 have ok1:=hb.ok (by omega)
 have ok2:=ha.ok (by omega)
 have f1:fndI (putM a e) (keyE e)=((plc (putM a e) (keyE e):Nat):Int):=by unfold fndI;rw[if_pos ok1,hg]
 rw[f1] at b3
 have q:=plc_lt hb.1 hg
 have hr:=ens_at (at_some hb.1 hg)
 have b4:=k37 e e he.2
 rw[(sameE_iff e e).2 rfl] at b4
 have b5:=k31 (putM a e) (by omega) hb.be
 rw[ok1] at b5
 have b6:=k33 (putM a e) (by omega) hb.be (keyE e)
 have h1:hasM (putM a e) (keyE e)=true:=by unfold hasM;rw[ok1,hg];rfl
 rw[h1,if_pos rfl,del_put ha.1.2] at b6
 have b7:=k33 a (by omega) ha.be (keyE e)
 have b8:=k35 a (by omega) ha.be (keyE e)
 have n0:¬ ((plc (putM a e) (keyE e):Nat):Int) < 0:=by omega
 have n1:(0:Int)≤((plc (putM a e) (keyE e):Nat):Int):=by omega
 have n2:¬ ((putM a e).length:Int)≤((plc (putM a e) (keyE e):Nat):Int):=by omega
 have n3:((plc (putM a e) (keyE e):Nat):Int) < ((putM a e).length:Int):=by omega
 simp only[rowE] at e0 b1 b2 b4
 cases hq:getM a (keyE e) with
 | some x =>
  have h2:hasM a (keyE e)=true:=by unfold hasM;rw[ok2,hq];rfl
  have f2:fndI a (keyE e)=((plc a (keyE e):Nat):Int):=by unfold fndI;rw[if_pos ok2,hq]
  rw[h2,if_pos rfl] at b7
  rw[f2] at b8
  have n4:¬ ((plc a (keyE e):Nat):Int) < 0:=by omega
  have ld:(delM a (keyE e)).length≤2000:=by
   have hs:=split_some ha.1.2 hq
   have:=congrArg List.length hs
   unfold delM
   simp only[List.length_append,List.length_cons] at this ⊢
   omega
  have b9:=k28 (delM a (keyE e)) ld (ha.del _).be
  simp only[F7,go_sem,ints_length,g1,g2,a0,e0,b1,b2,b3,b4,b5,b6,b7,b8,b9,n0,n1,n2,n3,n4,ens_len,hr,Bool.not_true,ne_eq,not_true_eq_false,decide_false,k20]
 | none =>
  have h2:hasM a (keyE e)=false:=by unfold hasM;rw[ok2,hq];rfl
  have f2:fndI a (keyE e) = -1:=by unfold fndI;rw[if_pos ok2,hq]
  rw[h2] at b7
  simp only[Bool.false_eq_true,if_false,ens_nil] at b7
  rw[f2] at b8
  rw[del_none ha.1.2 hq] at b6
  have b9:=k28 a (by omega) ha.be
  simp only[F7,go_sem,ints_length,g1,g2,a0,e0,b1,b2,b3,b4,b5,b6,b7,b8,b9,n0,n1,n2,n3,ens_len,hr,Bool.not_true,ne_eq,not_true_eq_false,decide_false,k20]
end Go.Av
