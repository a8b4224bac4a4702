/- Long memories; the law MemoryLimits. No conditions. -/
import Derived.Test.YtigalfbihapdnaaGreatDoorG3XJ
set_option linter.unusedSimpArgs false
set_option linter.unusedVariables false
set_option linter.unusedSectionVars false
set_option maxRecDepth 100000
set_option maxHeartbeats 16000000
namespace Go.Av
open Go.Nt
def lt (a:Nat):UInt8:=UInt8.ofNat (97+a)
theorem lt_lss:∀ a < 26,∀ b < 26,decide (lt a < lt b)=decide (a < b):=by decide
theorem lt_beq:∀ a < 26,∀ b < 26,(lt a == lt b)=decide (a=b):=by decide
theorem lt_wrt:∀ a < 26,wrt (lt a)=[lt a]:=by decide
def s3 (i:Nat):Bs:=[lt (i / 400),lt (i / 20 % 20),lt (i % 20)]
def fe (s:Bs):En:=⟨[(1,s,0)],[],[],[],[],[],0,1⟩
def fullE (n:Nat):List En:=(List.range n).map fun i=>fe (s3 i)
theorem fullE_len (n:Nat):(fullE n).length=n:=by simp [fullE]
theorem fullE_s (n:Nat):fullE (n+1)=fullE n++[fe (s3 n)]:=by simp [fullE,List.range_succ]
theorem vld1 {s:Bs} (h:s≠[]) (hl:s.length≤1024):vld [(1,s,0)]=0:=by
 refine (vld_iff _).2 ⟨?_,by simp,by simpa [len,wid] using hl⟩
 simp [VL,chks,chk,h,lastK]
theorem can1 (s:Bs):canS [(1,s,0)] []=[(1,s,0)]∨s=[]∨1024 < s.length:=by
 by_cases h:s=[]
 ·exact .inr (.inl h)
 by_cases hl:s.length≤1024
 ·left
  have hv:=vld1 h hl
  have hn:=nums_le hv vld_nil
  rw[(canS_vld hn hv).1]
  simp [phi,isTag]
 ·exact .inr (.inr (by omega))
theorem ge1 {s:Bs} (h:s≠[]) (hl:s.length≤1024) {c o:Int} (c0:0≤c) (c1:c≤1073741824) (o1:1≤o) (o3:o≤3):GE ⟨[(1,s,0)],[],[],[],[],[],c,o⟩:=by
 have hv:=vld1 h hl
 have e:canS [(1,s,0)] []=[(1,s,0)]:=by
  rcases can1 s with q | q | q
  ·exact q
  ·exact absurd q h
  ·omega
 exact⟨⟨hv,vld_nil,by simp,e,canT_nil _,rfl,rfl,rfl,rfl,c0,c1,o1,o3⟩,by simp,by simpa [tot] using (by omega),by simp,by simp [tot],by simp,by simp,by simp,by simp⟩
theorem fe_ge (i:Nat):GE (fe (s3 i)):=ge1 (by simp [s3]) (by simp [s3]) (by decide) (by decide) (by decide) (by decide)
theorem fe_key {s:Bs} (h:GE (fe s)):keyE (fe s)=s.flatMap wrt++[10,10]:=by
 rw[keyE_ok h.1]
 simp [fe,fmt,elt]
theorem s3_wrt {i:Nat} (hi:i < 2000):(s3 i).flatMap wrt=s3 i:=by
 simp only[s3,List.flatMap_cons,List.flatMap_nil,lt_wrt _ (show i / 400 < 26 by omega),lt_wrt _ (show i / 20 % 20 < 26 by omega),lt_wrt _ (show i % 20 < 26 by omega)]
 rfl
theorem fe_lt {i j:Nat} (hi:i < j) (hj:j < 2000):ltB (keyE (fe (s3 i))) (keyE (fe (s3 j)))=true:=by
 rw[fe_key (fe_ge i),fe_key (fe_ge j),s3_wrt (by omega),s3_wrt hj]
 simp only[s3,List.cons_append,List.nil_append,ltB_cc]
 rw[lt_lss _ (by omega) _ (by omega),lt_lss _ (by omega) _ (by omega),lt_lss _ (by omega) _ (by omega),lt_beq _ (by omega) _ (by omega),lt_beq _ (by omega) _ (by omega),lt_beq _ (by omega) _ (by omega)]
 simp only[Bool.or_eq_true,Bool.and_eq_true,decide_eq_true_eq]
 omega
theorem full_mg (n:Nat) (hn:n≤2000):MG (fullE n):=by
 refine⟨⟨fun e he=>?_,?_⟩,fun e he=>?_⟩
 ·simp only[fullE,List.mem_map] at he
  obtain⟨i,_,rfl⟩:=he
  exact (fe_ge i).1
 ·unfold Sr fullE
  rw[List.pairwise_map]
  refine List.Pairwise.imp_of_mem ?_ (List.pairwise_lt_range (n:=n))
  intro a b ha hb h
  exact fe_lt h (by have:=List.mem_range.1 hb;omega)
 ·simp only[fullE,List.mem_map] at he
  obtain⟨i,_,rfl⟩:=he
  exact fe_ge i
theorem rd3 (a b c:Nat) (ha:a < 100) (hb:b < 100) (hc:c < 100):bytesOfR [[.int .u8 (97+(a:Int))],[.int .u8 (97+(b:Int))],[.int .u8 (97+(c:Int))]]=some [lt a,lt b,lt c]:=by
 simp only[bR,bytesOfR,Option.map_some]
 congr 1
theorem u8w (a:Nat) (ha:a < 100):IntKind.u8.wrap (97+(a:Int))=97+(a:Int):=wu8 (by omega) (by omega)
theorem l43k (n:Nat) (hn:n≤1100):∀ (k i:Nat) (md:Own),i+k=n→md≠.no→∃ md',
  execX G0 L43_0 (ST [(0,.int .i64 n),(3,.sl md 8 (ens (fullE i))),(4,.int .i64 i)] [] [])=some (.ex 0,ST [(0,.int .i64 n),(3,.sl md' 8 (ens (fullE n))),(4,.int .i64 n),(8,.bool false)] [] [])
 | 0,i,md,h,hm=>by
  have:i=n:=by omega
  subst this
  refine⟨md,?_⟩
  rw[Y_loop (L:=L43_0) rfl]
  simp only[go_sem,Int.lt_irrefl]
 | k+1,i,md,h,hm=>by
  obtain⟨md',ih⟩:=l43k n hn k (i+1) .own (by omega) (by decide)
  refine⟨md',?_⟩
  have h4:(i:Int) < (n:Int):=by omega
  have hw:IntKind.i64.wrap ((i:Int)+1)=((i+1:Nat):Int):=by rw[w64 (by omega) (by omega)];rfl
  have d1:(i:Int).tdiv 400=((i / 400:Nat):Int):=rfl
  have d2:(i:Int).tdiv 20=((i / 20:Nat):Int):=rfl
  have d3:((i / 20:Nat):Int).tmod 20=((i / 20 % 20:Nat):Int):=rfl
  have d4:(i:Int).tmod 20=((i % 20:Nat):Int):=rfl
  have w1:IntKind.i64.wrap ((i / 400:Nat):Int)=((i / 400:Nat):Int):=w64 (by omega) (by omega)
  have w2:IntKind.i64.wrap ((i / 20:Nat):Int)=((i / 20:Nat):Int):=w64 (by omega) (by omega)
  have w3:IntKind.i64.wrap (97+((i / 400:Nat):Int))=97+((i / 400:Nat):Int):=w64 (by omega) (by omega)
  have w4:IntKind.i64.wrap (97+((i / 20 % 20:Nat):Int))=97+((i / 20 % 20:Nat):Int):=w64 (by omega) (by omega)
  have w5:IntKind.i64.wrap (97+((i % 20:Nat):Int))=97+((i % 20:Nat):Int):=w64 (by omega) (by omega)
  have u1:=u8w (i / 400) (by omega)
  have u2:=u8w (i / 20 % 20) (by omega)
  have u3:=u8w (i % 20) (by omega)
  have r:=rd3 (i / 400) (i / 20 % 20) (i % 20) (by omega) (by omega) (by omega)
  have mk:∀ a b c:AV,mksA 1 [.int .u8 0] 3 [0,1,2] [a,b,c]=mksA 1 [.int .u8 0] 3 [0,1,2] [a,b,c]:=fun _ _ _=>rfl
  have p:=appX (o:=.full) hm (fullE i) [fe (s3 i)] (by simp [fullE_len];omega)
  rw[← fullE_s] at p
  have e1:ens [fe (s3 i)]=[[.sl .no 3 [[.int .i64 1,.str [lt (i / 400),lt (i / 20 % 20),lt (i % 20)],.int .i64 0]],.sl .no 3 [],.str [],.str [],.str [],.str [],.int .i64 0,.int .i64 1]]:=rfl
  rw[e1] at p
  rw[Y_loop (L:=L43_0) rfl]
  simp only[go_sem,h4,hw,d1,d2,d3,d4,w1,w2,w3,w4,w5,u1,u2,u3,r,p,mks8]
  exact ih
theorem k43 (n:Nat) (hn:n≤1100):G0 43 [.int .i64 n] []=some (.sl .no 8 (ens (fullE n)),[]):=by
 obtain⟨md',x⟩:=l43k n hn n 0 .full (by omega) (by decide)
 have e:ens (fullE 0)=[]:=rfl
 have ec:((0:Nat):Int)=0:=rfl
 rw[e,ec] at x
 refine contract F43 rfl rfl rfl ?_
 simp only[F43,go_sem,x]
def zz (c:Int):En:=⟨[(1,[122,122],0)],[],[],[],[],[],c,3⟩
theorem zz_be (c:Int):BE (zz c):=by
 exact⟨by simp [zz],by simp [zz,tot],by simp [zz],by simp [zz,tot],by simp [zz],by simp [zz],by simp [zz],by simp [zz]⟩
theorem zz_ge:GE (zz 0):=ge1 (by simp) (by simp) (by decide) (by decide) (by decide) (by decide)
theorem zz_key:keyE (zz 0)=[122,122,10,10]:=by
 rw[keyE_ok zz_ge.1]
 rfl
theorem zz_no {n:Nat} (hn:n≤2000):getM (fullE n) (keyE (zz 0))=none:=by
 refine getM_none fun e he=>?_
 simp only[fullE,List.mem_map] at he
 obtain⟨i,hi,rfl⟩:=he
 have hi:=List.mem_range.1 hi
 rw[fe_key (fe_ge i),s3_wrt (by omega),zz_key]
 intro q
 have q:lt (i / 400)=122:=by injection q
 have h:∀ a < 20,lt a≠122:=by decide
 exact h _ (by omega) q
theorem uni_one {m:List En} (hm:MG m) {e:En} (he:GE e) (hn:getM m (keyE e)=none):uni m [e]=putM m e:=by
 rw[← uni_fold hm.1 (mg1 he).1,List.foldl_cons,List.foldl_nil]
 unfold updE
 rw[hn]
def tbL:List Int:=[-1,0,1073741824,1073741825]
theorem mL:mksA 1 [.int .i64 0] 4 [0,1,2,3] [.int .i64 (-1),.int .i64 0,.int .i64 1073741824,.int .i64 1073741825]=some (.sl .full 1 (ints tbL)):=rfl
theorem tbL_at (i:Nat) (h:i < 4):∃ v,(ints tbL)[i]?=some [.int .i64 v]:=by
 match i,h with
 | 0,_=>exact⟨_,rfl⟩
 | 1,_=>exact⟨_,rfl⟩
 | 2,_=>exact⟨_,rfl⟩
 | 3,_=>exact⟨_,rfl⟩
theorem w1024:IntKind.i64.wrap 1024=1024:=w64 (by decide) (by decide)
theorem w1023:IntKind.i64.wrap 1023=1023:=w64 (by decide) (by decide)
theorem w1025:IntKind.i64.wrap 1025=1025:=w64 (by decide) (by decide)
theorem w0L:IntKind.i64.wrap 0=0:=w64 (by decide) (by decide)
theorem k12 (n c:Int):G0 12 [.int .i64 n,.int .i64 c] []=some (.bool true,[]):=by
 have q1:=c18 n 3 (by decide) (by decide)
 have q2:=c18 c 4 (by decide) (by decide)
 have hr1:=Int.emod_nonneg n (show (3:Int)≠0 by decide)
 have hr2:=Int.emod_lt_of_pos n (show (0:Int) < 3 by decide)
 have hc1:=Int.emod_nonneg c (show (4:Int)≠0 by decide)
 have hc2:=Int.emod_lt_of_pos c (show (0:Int) < 4 by decide)
 generalize n % 3=r at q1 hr1 hr2
 generalize c % 4=d at q2 hc1 hc2
 obtain⟨v,hv⟩:=tbL_at d.toNat (by omega)
 have tl:((ints tbL).length:Int)=4:=rfl
 have a1:=k23 (zz v) (zz_be v)
 have a2:=k38 (zz v) (zz_be v)
 have ez:ens [zz 0]=[[.sl .no 3 [[.int .i64 1,.str [122,122],.int .i64 0]],.sl .no 3 [],.str [],.str [],.str [],.str [],.int .i64 0,.int .i64 3]]:=rfl
 have er:∀ x,rowE (zz x)=[.sl .no 3 [[.int .i64 1,.str [122,122],.int .i64 0]],.sl .no 3 [],.str [],.str [],.str [],.str [],.int .i64 x,.int .i64 3]:=fun _=>rfl
 rw[er] at a1 a2
 have cases3:r=0∨r=1∨r=2:=by omega
 refine contract F12 rfl rfl rfl ?_
 rcases cases3 with rfl | rfl | rfl
 ·have b0:=k43 1023 (by decide)
  have hm:=full_mg 1023 (by decide)
  have hz:=zz_no (n:=1023) (by decide)
  have hl:=fullE_len 1023
  generalize fullE 1023=m at b0 hm hz hl
  have ec:((1023:Nat):Int)=1023:=rfl
  rw[ec] at b0
  have ok:=hm.ok (by omega)
  have b1:=k31 m (by omega) hm.be
  rw[ok] at b1
  have b2:=k27 m (by omega) hm.be (zz 0) zz_ge.2
  rw[(hm.putE (by omega) zz_ge).1,(hm.putE (by omega) zz_ge).2] at b2
  have hp:(putM m (zz 0)).length=1024:=by rw[put_len hm.1.2,hz,hl];rfl
  have hu:=uni_one hm zz_ge hz
  have b3:=k41 m [zz 0] (by omega) (by simp) hm.be (mg1 zz_ge).be
  have h0:=uniE_0 ok ((mg1 zz_ge).ok (by simp)) (show (uni m [zz 0]).length≤1024 by rw[hu,hp];exact Nat.le_refl _)
  rw[h0.1,h0.2,hu,ez] at b3
  rw[er] at b2
  simp only[F12,go_sem,q1,q2,w1023,w1024,w0L,b0,mL,tl,hc1,hc2,hv,a1,a2,b1,b2,b3,ne_eq,not_true_eq_false,decide_false,mks8,ens_len,hp,k20,beq_self_eq_true,decide_true]
 ·have b0:=k43 1024 (by decide)
  have hm:=full_mg 1024 (by decide)
  have hz:=zz_no (n:=1024) (by decide)
  have hl:=fullE_len 1024
  generalize fullE 1024=m at b0 hm hz hl
  have ec:((1024:Nat):Int)=1024:=rfl
  rw[ec] at b0
  have ok:=hm.ok (by omega)
  have b1:=k31 m (by omega) hm.be
  rw[ok] at b1
  have b2:=k27 m (by omega) hm.be (zz 0) zz_ge.2
  have p3:=putE_3 ok ((vE_iff _).2 zz_ge.1) hz (by omega)
  rw[p3.1,p3.2] at b2
  have hp:(putM m (zz 0)).length=1025:=by rw[put_len hm.1.2,hz,hl];rfl
  have hu:=uni_one hm zz_ge hz
  have b3:=k41 m [zz 0] (by omega) (by simp) hm.be (mg1 zz_ge).be
  have h0:=uniE_3 ok ((mg1 zz_ge).ok (by simp)) (show ¬ (uni m [zz 0]).length≤1024 by rw[hu,hp];decide)
  rw[h0.1,h0.2,ez] at b3
  have hg:m[1023]?=some m[1023]:=List.getElem?_eq_getElem (by omega)
  have hG:=hm.2 _ (List.getElem_mem (show 1023 < m.length by omega))
  have hin:=List.getElem_mem (show 1023 < m.length by omega)
  generalize m[1023]=y at hg hG hin
  have hr:=ens_at hg
  have b4:=k27 m (by omega) hm.be y hG.2
  have gy:=getM_mem hm.1.2 hin
  have p4:=putE_0 ok ((vE_iff _).2 hG.1) (fun q=>by rw[gy] at q;cases q.1)
  rw[p4.1,p4.2] at b4
  have hp4:(putM m y).length=1024:=by rw[put_len hm.1.2,gy,hl];rfl
  rw[er] at b2
  simp only[rowE] at b4
  simp only[ens_nil] at b2 b3
  simp only[F12,go_sem,q1,q2,w1023,w1024,w0L,b0,mL,tl,hc1,hc2,hv,a1,a2,b1,b2,b3,ne_eq,not_true_eq_false,decide_false,mks8,ens_len,hl,hr,b4,hp4,k20,beq_self_eq_true,decide_true,List.length_nil]
 ·have b0:=k43 1025 (by decide)
  have hm:=full_mg 1025 (by decide)
  have hl:=fullE_len 1025
  generalize fullE 1025=m at b0 hm hl
  have ec:((1025:Nat):Int)=1025:=rfl
  rw[ec] at b0
  have ok:okM m=false:=by
   cases q:okM m with
   | false=>rfl
   | true=>have:=((okM_iff m).1 q).1;omega
  have b1:=k31 m (by omega) hm.be
  rw[ok] at b1
  have b2:=k27 m (by omega) hm.be (zz 0) zz_ge.2
  rw[(putE_1 ok).1,(putE_1 ok).2] at b2
  have b3:=k41 m [zz 0] (by omega) (by simp) hm.be (mg1 zz_ge).be
  have h0:=uniE_1 (a:=m) (b:=[zz 0]) (by rw[ok];simp)
  rw[h0.1,h0.2,ez] at b3
  have hg:m[0]?=some m[0]:=List.getElem?_eq_getElem (by omega)
  have hG:=hm.2 _ (List.getElem_mem (show 0 < m.length by omega))
  generalize m[0]=y at hg hG
  have hr:=ens_at hg
  have b4:=k24 y hG.2
  have b5:=k35 m (by omega) hm.be (keyE y)
  have f1:fndI m (keyE y) = -1:=by unfold fndI;rw[ok];rfl
  rw[f1] at b5
  rw[er] at b2
  simp only[rowE] at b4
  simp only[ens_nil] at b2 b3
  simp only[F12,go_sem,q1,q2,w1023,w1024,w1025,w0L,b0,mL,tl,hc1,hc2,hv,a1,a2,b1,b2,b3,ne_eq,not_true_eq_false,decide_false,mks8,ens_len,hl,hr,b4,b5,k20,beq_self_eq_true,decide_true,List.length_nil]
end Go.Av
