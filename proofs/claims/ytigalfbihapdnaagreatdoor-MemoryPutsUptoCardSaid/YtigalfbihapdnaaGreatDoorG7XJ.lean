/- The law MemoryExchanges. No conditions. Deleting an entry; the law MemoryKeeps. No conditions. -/
import Derived.Test.YtigalfbihapdnaaGreatDoorG7XI
open List
set_option linter.unusedSimpArgs false
set_option linter.unusedVariables false
set_option linter.unusedSectionVars false
set_option maxRecDepth 100000
set_option maxHeartbeats 16000000
namespace Go.Av
open Go.Nt
end Go.Av
namespace Go.Av
open Go.Nt
abbrev zf8:List AV:=[AV.sl Own.full 3 [],AV.sl Own.full 3 [],AV.str [],AV.str [],AV.str [],AV.str [],AV.int IntKind.i64 0,AV.int IntKind.i64 0]
theorem drop_len {m:List En} {i:Nat}:(cls (m.drop i)).length=(m.length - i)*8:=by rw[cls_len,length_drop]
theorem cls_drop (m:List En) (i:Nat) (hi:i<=m.length):(cls m).drop (i*8)=cls (m.drop i):=by
 conv=>lhs;rw[cls_split m i]
 rw[<- take_len hi,drop_left]
theorem k73 (m:List En) (hl:m.length<=2000) (i:Nat) (hi:i < m.length):G0 73 [.ss m.length 0 m.length 8,.int .i64 i,.int .i64 ((i+1:Nat):Int)] (List.replicate m.length dead++[cls m])=some (.ss m.length 0 (m.length - 1) 8,List.replicate m.length dead++[cls (m.take i++m.drop (i+1))++zf8]):=by
 have hW:(m.take i++m.drop (i+1)).length=m.length - 1:=by simp;omega
 have a0:(0:Int)<=(i:Int):=by omega
 have a1:(i:Int)<=((i+1:Nat):Int):=by omega
 have a2:((i+1:Nat):Int)<=(m.length:Int):=by omega
 have a3:((i:Int)=((i+1:Nat):Int))=False:=eq_false (by omega);have a4:(i:Int)<=(m.length:Int):=by omega
 have a5:(0:Int)<=((i+1:Nat):Int):=by omega
 have a6:(((i+1:Nat):Int)=0)=False:=eq_false (by omega);have hsum:i+(m.length - (i+1))=m.length - 1:=by omega
 obtain⟨c',hc'⟩:∃ c',c'=cls (m.take i++m.drop (i+1))++cls (m.drop (m.length - 1)):=⟨_,rfl⟩
 have hcl:c'.length=m.length*8:=by rw[hc',length_append,cls_len,hW,drop_len];omega
 have hput:putC (i*8) (ens (m.drop (i+1))).flatten (cls m)=some c':=by
  have hp:=putC_app (cls (m.take i)) (cls (m.drop i)) (cls (m.drop (i+1))) (by rw[drop_len,drop_len];omega);have e3:(cls (m.drop i)).drop (cls (m.drop (i+1))).length=cls (m.drop (m.length - 1)):=by
   rw[drop_len,cls_drop _ _ (by simp;omega),drop_drop]
   congr 2
  rw[take_len (by omega),<- cls_split,e3] at hp;rw[hc',cls_app];exact hp
 have hblk:blkB c'=true:=by
  rw[hc',<- cls_app];exact cls_blk _
 have happ:appCA 8 (List.replicate m.length dead++[cls m]) (some (ens (m.drop (i+1)))) (.ss m.length 0 i 8)=some (.ss m.length 0 (m.length - 1) 8,List.replicate m.length dead++[c']):=by
  have:=appCA_some (sh:=List.replicate m.length dead++[cls m]) (o:=m.length) (n:=i) (l2:=ens (m.drop (i+1))) (z:=8) (by decide) (cells:=cls m) (rD _ _) (cls_blk m) (by rw[ens_len,length_drop,cls_len];omega) hput
  rw[this,ens_len,length_drop,hsum,rS]
 have hslx:=slxA_both (sh:=List.replicate m.length dead++[c']) (z:=8) (by decide) (o:=m.length) (off:=0) (n:=m.length - 1) (k:=.i64) (k':=.i64) (i:=m.length - 1) (j:=m.length) (cells:=c') (rD _ _) hblk (by rw[hcl];omega) (by omega);rw[Nat.zero_add,show m.length - (m.length - 1)=1 by omega] at hslx;have hclr:putC ((m.length - 1)*8) (zeroRow zf8 1) c'=some (cls (m.take i++m.drop (i+1))++zf8):=by
  have hp:=putC_app (cls (m.take i++m.drop (i+1))) (cls (m.drop (m.length - 1))) zf8 (by rw[drop_len];simp;omega);have e4:(cls (m.drop (m.length - 1))).drop zf8.length=[]:=drop_of_length_le (by rw[drop_len];simp;omega);rw[cls_len,hW,e4,append_nil,<- hc'] at hp;exact hp
 have hrow:rowsC ((i+1)*8) (m.length - (i+1)) 8 (cls m)=some (ens (m.drop (i+1))):=by
  have:=rowsC_mid (m.take (i+1)) (m.drop (i+1)) []
  rw[append_nil,take_append_drop,length_take,length_drop,Nat.min_eq_left (by omega)] at this;exact this
 refine contract F73 rfl rfl rfl ?_;by_cases hlast:((i+1:Nat):Int) < (m.length:Int)
 ·simp only[F73,go_sem,a0,a1,a2,a3,a4,a5,a6,hlast,or_true,or_false,Int.le_refl,Int.toNat_natCast,Nat.zero_add,rD,rS,hrow,happ,hslx,clrX_ss,hblk,hclr]
 ·have hdn:ens (m.drop (i+1))=[]:=by rw[drop_eq_nil_of_le (by omega)];rfl
  rw[hdn] at happ;simp only[F73,go_sem,a0,a1,a2,a3,a4,a5,a6,hlast,or_false,Int.le_refl,Int.toNat_natCast,Nat.zero_add,rD,rS,happ,hslx,clrX_ss,hblk,hclr]
theorem rowsC_pre {m:List En} {n:Nat} (h:m.length=n) (X:List AV):rowsC 0 n 8 (cls m++X)=some (ens m):=by
 have:=rowsC_seg (z:=8) (by decide) [] (cls m) X m.length (cls_len m) (cls_flat m)
 rw[nil_append,rowsOf_cls,h] at this;exact this
theorem cls_blk8 (m:List En) (X:List AV):blkB (cls m++zf8)=true:=by
 cases m with
 | nil=>rfl
 | cons e m=>rw[cls_cons];rfl
def hasM (m:List En) (k:Bs):Bool:=okM m && (getM m k).isSome
theorem k33 (m:List En) (hl:m.length<=2000) (hB:∀ e∈m,BE e) (k:Bs):G0 33 [.sl .no 8 (ens m),.str k] []=some (.tup [.sl .no 8 (ens (if hasM m k=true then delM m k else [])),.bool (hasM m k)],[]):=by
 have a1:=k35 m hl hB k;unfold fndI at a1;unfold hasM;refine contract F33 rfl rfl rfl ?_;cases hq:okM m with
 | false =>
  rw[hq] at a1;simp only[Bool.false_eq_true,if_false] at a1;simp only[F33,go_sem,a1,Bool.false_and,Bool.false_eq_true,Int.reduceLT,decide_true];rfl
 | true =>
  rw[hq] at a1;simp only[if_true] at a1;obtain⟨h1,h2⟩:=(okM_iff m).1 hq;cases hg:getM m k with
  | none =>
   rw[hg] at a1;simp only[] at a1;simp only[F33,go_sem,a1,Option.isSome_none,Bool.and_false,Bool.false_eq_true,Int.reduceLT,decide_true];rfl
  | some x =>
   rw[hg] at a1;simp only[] at a1;have q:=plc_lt h2 hg;have hs:=split_some h2.2 hg;have e1:m.take (plc m k)++m.drop (plc m k+1)=delM m k:=by
    unfold delM plc;generalize bel k m=B at *;generalize abv k m=A at *;subst hs;simp
   have a2:=k68 m hl hB;have a3:=k73 m hl (plc m k) q;rw[e1] at a3;have hlen:(delM m k).length=m.length - 1:=by
    rw[<- e1];simp;omega
   have hr:=rowsC_pre hlen zf8;have hb:=cls_blk8 (delM m k) zf8;have n0:¬ ((plc m k:Nat):Int) < 0:=by omega
   have hw:IntKind.i64.wrap (((plc m k:Nat):Int)+1)=((plc m k+1:Nat):Int):=by rw[w64 (by omega) (by omega)];rfl
   simp only[F33,go_sem,a1,n0,hw,a2,a3,Option.isSome_some,Bool.and_true,rD,hr,hb,Nat.zero_le]
end Go.Av
