/- Searching a sorted list of texts. No conditions. Copies of entries. No conditions. Finding a key, by both packages. No conditions. Putting an entry, by both packages. No conditions. Putting an entry by the memory package. No conditions. r3.Normalize and r3.Concat that hand out an object of their own. No conditions. Fragments that are nested, out of numbers. No conditions. A target of a source out of numbers: the same tags, other texts. No conditions. Entries and memories out of numbers. No conditions. -/
import Derived.Test.YtigalfbihapdnaaGreatDoorG7XG
import Derived.Test.YtigalfbihapdnaaGreatDoorG7XB
open List
set_option linter.unusedSimpArgs false
set_option linter.unusedVariables false
set_option linter.unusedSectionVars false
set_option maxRecDepth 100000
set_option maxHeartbeats 16000000
namespace Go.Av
open Go.Nt
theorem k113 (a b:Bs):G0 113 [.str a,.str b] []=some (.bool (ltB a b),[]):=by
 have c1:=k128 a;have c2:=k128 b;refine contract F113 rfl rfl rfl ?_;simp only[F113,go_sem,c1,c2,ltB_def]
theorem k114 (s:Bs):G0 114 [.str s] []=some (.bool false,[]):=by
 refine contract F114 rfl rfl rfl ?_;have e:(s != s)=false:=by simp
 simp only[F114,go_sem,e]
def isLb (l:List Bs) (k:Bs) (n:Nat):Prop:=n<=l.length/\∀ h x,l[h]?=some x->ltB x k=decide (h < n)
theorem mid_eq (a b:Nat) (h:a+b<=1000000):IntKind.i64.wrap ((a:Int)+(b:Int))=((a+b:Nat):Int)/\IntKind.u64.wrap ((a+b:Nat):Int)=((a+b:Nat):Int)/\((a+b:Nat):Int).fdiv (2 ^ (min 1 64:Nat))=(((a+b) / 2:Nat):Int)/\IntKind.i64.wrap (((a+b) / 2:Nat):Int)=(((a+b) / 2:Nat):Int):=by
 refine⟨by rw[w64 (by omega) (by omega)];rfl,?_,?_,by rw[w64 (by omega) (by omega)]⟩
 ·show (((a+b:Nat):Int)) % 18446744073709551616=_
  omega
 ·rw[show (min 1 64:Nat)=1 from rfl,Int.fdiv_eq_ediv_of_nonneg _ (by decide)]
  omega
theorem l67k (l:List Bs) (k:Bs) (hl:l.length<=100000) (n:Nat) (hn:isLb l k n):∀ (d i j:Nat),j - i<=d->i<=n->n<=j->j<=l.length ->
  execX G0 L67_0 (ST [(0,.sl .no 1 (strs l)),(1,.str k),(6,.int .i64 l.length),(7,.int .i64 i),(8,.int .i64 j)] [] [])=some (.ex 0,ST [(0,.sl .no 1 (strs l)),(1,.str k),(6,.int .i64 l.length),(7,.int .i64 n),(8,.int .i64 n),(15,.bool false)] [] [])
 | d,i,j,hd,h1,h2,h3=>by
  by_cases hij:i < j
  case neg =>
   have e1:i=n:=by omega
   have e2:j=n:=by omega
   subst e1;subst e2;rw[Y_loop (L:=L67_0) rfl];simp only[go_sem,Int.lt_irrefl]
  cases d with
  | zero=>omega
  | succ d =>
   have hij':(i:Int) < (j:Int):=by omega
   obtain⟨m1,m2,m3,m4⟩:=mid_eq i j (by omega);have hh:(i+j) / 2 < l.length:=by omega
   have hg:l[(i+j) / 2]?=some l[(i+j) / 2]:=getElem?_eq_getElem hh;generalize l[(i+j) / 2]=x at hg;have hx:=hn.2 _ _ hg;have hr:=strs_at hg;have c:=k113 x k;have h0:(0:Int)<=(((i+j) / 2:Nat):Int):=by omega
   generalize hm:(i+j) / 2=m at *;have hw:IntKind.i64.wrap ((m:Int)+1)=((m+1:Nat):Int):=by rw[w64 (by omega) (by omega)];rfl
   by_cases q:m < n
   ·rw[decide_eq_true q] at hx
    have ih:=l67k l k hl n hn d (m+1) j (by omega) (by omega) h2 h3;rw[Y_loop (L:=L67_0) rfl];simp only[go_sem,hij',m1,m2,m3,m4,h0,hr,c,hx,hw];exact ih
   ·rw[decide_eq_false q] at hx
    have ih:=l67k l k hl n hn d i m (by omega) h1 (by omega) (by omega);rw[Y_loop (L:=L67_0) rfl];simp only[go_sem,hij',m1,m2,m3,m4,h0,hr,c,hx,hw];exact ih
theorem k67 (l:List Bs) (k:Bs) (hl:l.length<=100000) (n:Nat) (hn:isLb l k n):G0 67 [.sl .no 1 (strs l),.str k] []=some (.tup [.int .i64 n,.bool (decide (l[n]?=some k))],[]):=by
 have x:=l67k l k hl n hn l.length 0 l.length (by omega) (by omega) hn.1 (Nat.le_refl _);have ec:((0:Nat):Int)=0:=rfl;rw[ec] at x;have c2:=k114 k;have h0:(0:Int)<=(n:Int):=by omega
 refine contract F67 rfl rfl rfl ?_;by_cases q:n < l.length
 ·have q':(n:Int) < (l.length:Int):=by omega
  have hg:l[n]?=some l[n]:=getElem?_eq_getElem q;generalize l[n]=y at hg;have hr:=strs_at hg;have c1:=k114 y;rw[hg];by_cases e:y=k
  ·subst e
   rw[decide_eq_true rfl];simp only[F67,go_sem,strs_len,x,q',h0,hr,beq_self_eq_true]
  ·have e':(y == k)=false:=by simpa using e
   rw[decide_eq_false (by simpa using e)];simp only[F67,go_sem,strs_len,x,q',h0,hr,e',c1]
 ·have q':¬ (n:Int) < (l.length:Int):=by omega
  rw[getElem?_eq_none (by omega),decide_eq_false (by simp)];simp only[F67,go_sem,strs_len,x,q']
theorem rfs2 (l:List Bs) (k:Bs):refsOk false 2 [[AV.sl Own.no 1 (strs l)],[AV.str k]]=true:=rfl
theorem cap2:[AV.ptr 0 0,AV.ptr 1 0].all (capB true)=true:=rfl
theorem mkf2:mkfA 118 [AV.ptr 0 0,AV.ptr 1 0]=some (.fn 118 [.ptr 0 0,.ptr 1 0]):=rfl
theorem k118 (l:List Bs) (k:Bs) (h:Nat) (x:Bs) (hg:l[h]?=some x):G0 118 [.int .i64 h,.ptr 0 0,.ptr 1 0] [[.sl .no 1 (strs l)],[.str k]]=some (.bool !(ltB x k),[[.sl .no 1 (strs l)],[.str k]]):=by
 have hr:=strs_at hg;have h0:(0:Int)<=(h:Int):=by omega
 refine contract F118 rfl rfl rfl ?_;simp only[F118,go_sem,h0,hr,ge_str,rfs2]
theorem l117k (l:List Bs) (k:Bs) (hl:l.length<=100000) (n:Nat) (hn:isLb l k n):∀ (d i j:Nat),j - i<=d->i<=n->n<=j->j<=l.length ->
  execX G0 L117_0 (ST [(1,.fn 118 [.ptr 0 0,.ptr 1 0]),(5,.int .i64 i),(6,.int .i64 j)] [] [[.sl .no 1 (strs l)],[.str k]])=some (.ex 0,ST [(1,.fn 118 [.ptr 0 0,.ptr 1 0]),(5,.int .i64 n),(6,.int .i64 n),(11,.bool false)] [] [[.sl .no 1 (strs l)],[.str k]])
 | d,i,j,hd,h1,h2,h3=>by
  by_cases hij:i < j
  case neg =>
   have e1:i=n:=by omega
   have e2:j=n:=by omega
   subst e1;subst e2;rw[Y_loop (L:=L117_0) rfl];simp only[go_sem,Int.lt_irrefl]
  cases d with
  | zero=>omega
  | succ d =>
   have hij':(i:Int) < (j:Int):=by omega
   obtain⟨m1,m2,m3,m4⟩:=mid_eq i j (by omega);have hh:(i+j) / 2 < l.length:=by omega
   have hg:l[(i+j) / 2]?=some l[(i+j) / 2]:=getElem?_eq_getElem hh;generalize l[(i+j) / 2]=x at hg;have hx:=hn.2 _ _ hg;have c:=k118 l k _ x hg;have h0:(0:Int)<=(((i+j) / 2:Nat):Int):=by omega
   generalize hm:(i+j) / 2=m at *;have hw:IntKind.i64.wrap ((m:Int)+1)=((m+1:Nat):Int):=by rw[w64 (by omega) (by omega)];rfl
   by_cases q:m < n
   ·rw[decide_eq_true q] at hx
    rw[hx,Bool.not_true] at c;have ih:=l117k l k hl n hn d (m+1) j (by omega) (by omega) h2 h3;rw[Y_loop (L:=L117_0) rfl];simp only[go_sem,hij',m1,m2,m3,m4,h0,c,hw,Bool.not_false];exact ih
   ·rw[decide_eq_false q] at hx
    rw[hx,Bool.not_false] at c;have ih:=l117k l k hl n hn d i m (by omega) h1 (by omega) (by omega);rw[Y_loop (L:=L117_0) rfl];simp only[go_sem,hij',m1,m2,m3,m4,h0,c,hw,Bool.not_true];exact ih
theorem k117 (l:List Bs) (k:Bs) (hl:l.length<=100000) (n:Nat) (hn:isLb l k n):G0 117 [.int .i64 l.length,.fn 118 [.ptr 0 0,.ptr 1 0]] [[.sl .no 1 (strs l)],[.str k]]=some (.int .i64 n,[[.sl .no 1 (strs l)],[.str k]]):=by
 have x:=l117k l k hl n hn l.length 0 l.length (by omega) (by omega) hn.1 (Nat.le_refl _);have ec:((0:Nat):Int)=0:=rfl;rw[ec] at x;refine contract F117 rfl rfl rfl ?_;simp only[F117,go_sem,x,rfs2]
theorem k74 (l:List Bs) (k:Bs) (hl:l.length<=100000) (n:Nat) (hn:isLb l k n):G0 74 [.sl .no 1 (strs l),.str k] []=some (.int .i64 n,[]):=by
 have x:=k117 l k hl n hn;refine contract F74 rfl rfl rfl ?_;simp only[F74,go_sem,strs_len,x,mkf2,rfs2,cap2]
end Go.Av
namespace Go.Av
open Go.Nt
theorem k85 (f:List Tk) (m:Own) (hf:f.length<=100000):G0 85 [.sl m 3 (tks f)] []=some (.sl .no 3 (tks f),[]):=by
 refine Gx_base ?_;show (if 3=3/\appOK 32 (tks f).length=true then some (AV.sl .no 3 (tks f),([]:LL)) else none)=_;rw[if_pos ⟨rfl,by rw[tks_len];exact appOK_le (by decide) (by omega)⟩]
theorem k69 (e:En) (h:BE e):G0 69 [.agg (rowE e)] []=some (.agg (rowE e),[]):=by
 obtain⟨l1,l2,l3⟩:=h.lS;obtain⟨m1,m2,m3⟩:=h.lT;have a1:=k85 e.S .no (by omega);have a2:=k85 e.T .no (by omega);refine contract F69 rfl rfl rfl ?_;simp only[F69,rowE,go_sem,a1,a2]
def cls (m:List En):List AV:=(ens m).flatten
theorem cls_app (a b:List En):cls (a++b)=cls a++cls b:=by simp [cls,ens]
theorem cls_cons (e:En) (m:List En):cls (e :: m)=rowE e++cls m:=by simp [cls,ens]
theorem row_len (e:En):(rowE e).length=8:=rfl
theorem cls_len:∀ m:List En,(cls m).length=m.length*8
 | []=>rfl
 | e :: m=>by rw[cls_cons,length_append,cls_len m,row_len,length_cons,Nat.add_mul];omega
theorem row_flat (e:En):(rowE e).all flatB=true:=rfl
theorem cls_flat:∀ m:List En,(cls m).all flatB=true
 | []=>rfl
 | e :: m=>by rw[cls_cons,all_append,row_flat,cls_flat m];rfl
theorem ens_cons (e:En) (m:List En):ens (e :: m)=rowE e :: ens m:=rfl
theorem ens_row:∀ (m:List En),∀ r∈ens m,r.length=8
 | [],r,h=>by cases h
 | e :: m,r,h=>by
  rw[ens_cons] at h;rcases mem_cons.1 h with rfl | h
  ·rfl
  ·exact ens_row m r h
theorem rowsOf_cls (m:List En):rowsOf 8 m.length (cls m)=ens m:=by
 have:=rowsOf_flat' 8 (ens m) (ens_row m)
 rw[ens_len] at this;exact this
theorem rowsC_mid (a d r:List En):rowsC (a.length*8) d.length 8 (cls (a++d++r))=some (ens d):=by
 rw[cls_app,cls_app,<- cls_len a,rowsC_seg (by decide) _ _ _ d.length (cls_len d) (cls_flat d),rowsOf_cls]
theorem rowsC_all (m:List En):rowsC 0 m.length 8 (cls m)=some (ens m):=by
 have:=rowsC_mid [] m []
 rw[nil_append,append_nil] at this;exact this
theorem nown_all {l:List AV} (h:l.all flatB=true):l.all nownB=true:=by
 rw[all_eq_true] at h ⊢;intro x hx
 have:=h x hx
 cases x<;>simp_all [flatB,nownB]
theorem cls_blk (m:List En):blkB (cls m)=true:=by
 cases m with
 | nil=>rfl
 | cons e m=>rw[cls_cons];rfl
theorem rD (i:Nat) (c:List AV):(List.replicate i dead++[c])[i]?=some c:=by
 rw[getElem?_append_right (by simp)];simp
theorem rS (i:Nat) (c c':List AV):(List.replicate i dead++[c]).set i c'=List.replicate i dead++[c']:=by
 have h:i=(List.replicate i dead).length:=by simp
 conv=>lhs;rw[show (List.replicate i dead++[c]).set i c'=(List.replicate i dead++[c]).set (List.replicate i dead).length c' by rw[<- h]]
 rw[set_append_right _ _ (Nat.le_refl _),Nat.sub_self];rfl
theorem rL (i:Nat) (c:List AV):(List.replicate i dead++[c]).length=i+1:=by simp
theorem rN (i:Nat):List.replicate i dead++[dead]=List.replicate (i+1) dead:=by
 rw[replicate_succ']
theorem appE (m:List En) (e:En) (k:Nat) (hk:m.length<=100000):appSA 8 128 (List.replicate k dead++[cls m]) (some [rowE e]) (.ss k 0 m.length 8)=some (.ss (k+1) 0 (m.length+1) 8,List.replicate (k+1) dead++[cls (m++[e])]):=by
 have ha:appOK 128 (m.length+1)=true:=appOK_le (by decide) (by omega);rw[appSA_ss k m.length 128 8 (by decide),length_singleton,if_pos ha,rD];simp only[Option.bind_some];rw[if_pos ⟨cls_blk m,(cls_len m).symm,nown_all (cls_flat m)⟩,rL,rS,rN,cls_app];simp [cls,ens]
theorem mks8 (a b c d e f g h:AV):mksA 8 [AV.sl Own.full 3 [],AV.sl Own.full 3 [],AV.str [],AV.str [],AV.str [],AV.str [],AV.int IntKind.i64 0,AV.int IntKind.i64 0] 1 [0] [.agg [a,b,c,d,e,f,g,h]]=some (.sl .full 8 [[a,b,c,d,e,f,g,h]]):=rfl
attribute [-go_sem] appSA_ss mklA_int
theorem l68k (m:List En) (hl:m.length<=2000) (hB:∀ e∈m,BE e):∀ (k i:Nat),i+k=m.length ->
  execX G0 L68_0 (ST [(3,.ss i 0 i 8),(10,.sl .no 8 (ens m)),(11,.int .i64 m.length),(12,.int .i64 i)] [] (List.replicate i dead++[cls (m.take i)]))=some (.ex 0,ST [(3,.ss m.length 0 m.length 8),(10,.sl .no 8 (ens m)),(11,.int .i64 m.length),(12,.int .i64 m.length),(13,.bool false)] [] (List.replicate m.length dead++[cls m]))
 | 0,i,h=>by
  have:i=m.length:=by omega
  subst this;rw[take_length];rw[Y_loop (L:=L68_0) rfl];simp only[go_sem,Int.lt_irrefl]
 | k+1,i,h=>by
  have hi:i < m.length:=by omega
  have h4:(i:Int) < (m.length:Int):=by omega
  have h0:(0:Int)<=(i:Int):=by omega
  have hw:IntKind.i64.wrap ((i:Int)+1)=((i+1:Nat):Int):=by rw[w64 (by omega) (by omega)];rfl
  have hg:m[i]?=some m[i]:=getElem?_eq_getElem hi;have ht:m.take (i+1)=m.take i++[m[i]]:=by rw[take_add_one,hg];rfl
  have hBe:=hB _ (getElem_mem hi);generalize m[i]=e at hg ht hBe;have hr:=ens_at hg;have a1:=k69 e hBe;simp only[rowE] at a1;have htl:(m.take i).length=i:=by simp;omega
  have ha:=appE (m.take i) e i (by omega);rw[htl,<- ht] at ha;simp only[rowE] at ha;have ih:=l68k m hl hB k (i+1) (by omega);rw[Y_loop (L:=L68_0) rfl];simp only[go_sem,h4,h0,hr,hw,a1,mks8,ha];exact ih
theorem k68 (m:List En) (hl:m.length<=2000) (hB:∀ e∈m,BE e):G0 68 [.sl .no 8 (ens m)] []=some (.ss m.length 0 m.length 8,List.replicate m.length dead++[cls m]):=by
 have x:=l68k m hl hB m.length 0 (by omega);have ec:((0:Nat):Int)=0:=rfl;have e1:List.replicate 0 dead++[cls (m.take 0)]=[[]]:=rfl;rw[ec,e1] at x;have hw:IntKind.i64.wrap ((m.length:Int)+1)=((m.length+1:Nat):Int):=by rw[w64 (by omega) (by omega)];rfl
 have hk:mklA 8 [AV.sl Own.full 3 [],AV.sl Own.full 3 [],AV.str [],AV.str [],AV.str [],AV.str [],AV.int IntKind.i64 0,AV.int IntKind.i64 0] 128 [] (.int .i64 0) (.int .i64 ((m.length+1:Nat):Int))=some (.ss 0 0 0 8,[[]]):=by
  rw[mklA_int,if_pos ⟨by decide,by omega,by omega,by omega,by decide,rfl⟩];rfl
 refine contract F68 rfl rfl rfl ?_;simp only[F68,go_sem,ens_len,hw,hk,x]
end Go.Av
namespace Go.Av
open Go.Nt
theorem key_joinV {e:En} (h:VE e):joinE e=keyE e:=(key_join ((vE_iff e).2 h)).symm
theorem ascF_some:∀ (m:List En) (k:Bs),ascF (some k) m=true↔(∀ e∈m,VE e)/\Sr m/\∀ e∈m,ltB k (keyE e)=true
 | [],k=>by simp [ascF,Sr]
 | e :: m,k=>by
  show (okE _ _ && _)=true↔_;rw[Bool.and_eq_true,ascF_some m (joinE e)];unfold okE;simp only[Bool.and_eq_true,decide_eq_true_eq];constructor
  ·rintro ⟨⟨h1,h2⟩,h3,h4,h5⟩
   have hv:=(vE_iff e).1 h1;rw[key_joinV hv] at h2 h5;refine⟨fun x hx=>?_,pairwise_cons.2 ⟨fun x hx=>h5 x hx,h4⟩,fun x hx=>?_⟩
   ·rcases mem_cons.1 hx with rfl | hx
    ·exact hv
    ·exact h3 x hx
   ·rcases mem_cons.1 hx with rfl | hx
    ·exact h2
    ·exact ltB_tr _ _ _ h2 (h5 x hx)
  ·rintro ⟨h1,h2,h3⟩
   have hv:=h1 e (mem_cons_self ..);rw[key_joinV hv];obtain⟨p1,p2⟩:=pairwise_cons.1 h2;exact⟨⟨(vE_iff e).2 hv,h3 e (mem_cons_self ..)⟩,fun x hx=>h1 x (mem_cons_of_mem _ hx),p2,p1⟩
theorem ascF_none (m:List En):ascF none m=true↔Mem m:=by
 cases m with
 | nil=>simp [ascF,mem_nil]
 | cons e m =>
  show (okE _ _ && _)=true↔_;rw[Bool.and_eq_true,ascF_some m (joinE e)];unfold okE;simp only[Bool.and_true,decide_eq_true_eq];constructor
  ·rintro ⟨h1,h3,h4,h5⟩
   have hv:=(vE_iff e).1 h1;rw[key_joinV hv] at h5;refine⟨fun x hx=>?_,pairwise_cons.2 ⟨fun x hx=>h5 x hx,h4⟩⟩;rcases mem_cons.1 hx with rfl | hx
   ·exact hv
   ·exact h3 x hx
  ·rintro ⟨h1,h2⟩
   have hv:=h1 e (mem_cons_self ..);rw[key_joinV hv];obtain⟨p1,p2⟩:=pairwise_cons.1 h2;exact⟨(vE_iff e).2 hv,fun x hx=>h1 x (mem_cons_of_mem _ hx),p2,p1⟩
theorem okM_iff (m:List En):okM m=true↔m.length<=1024/\Mem m:=by
 unfold okM;rw[Bool.and_eq_true,ascF_none,decide_eq_true_eq]
def plc (m:List En) (k:Bs):Nat:=(bel k m).length
theorem mem_split {m:List En} (h:Sr m) (k:Bs):∃ r,m=bel k m++r/\∀ e∈r,ltB (keyE e) k=false:=by
 cases hg:getM m k with
 | none =>
  refine⟨abv k m,split_none h hg,fun e he=>?_⟩;exact ltB_asym (mem_abv.1 he).2
 | some x =>
  refine⟨x :: abv k m,split_some h hg,fun e he=>?_⟩;rcases mem_cons.1 he with rfl | he
  ·rw[(getM_some hg).2];exact ltB_irr k
  ·exact ltB_asym (mem_abv.1 he).2
theorem mem_map {m:List En} (h:Mem m):m.map joinE=m.map keyE:=map_congr_left fun e he=>key_joinV (h.1 e he)
theorem lb_key {m:List En} (h:Mem m) (k:Bs):isLb (m.map keyE) k (plc m k):=by
 obtain⟨r,e,hr⟩:=mem_split h.2 k;have hl:(bel k m).length<=m.length:=by
  have:=congrArg List.length e
  rw[length_append] at this;omega
 refine⟨by rw[length_map];exact hl,fun i x hx=>?_⟩;rw[getElem?_map] at hx;obtain⟨y,hy,rfl⟩:=Option.map_eq_some_iff.1 hx;unfold plc;by_cases q:i < (bel k m).length
 ·rw[decide_eq_true q]
  rw[e,getElem?_append_left q] at hy;exact (mem_bel.1 (mem_of_getElem? hy)).2
 ·rw[decide_eq_false q]
  rw[e,getElem?_append_right (by omega)] at hy;exact hr y (mem_of_getElem? hy)
theorem plc_le {m:List En} (h:Mem m) (k:Bs):plc m k<=m.length:=by have:=(lb_key h k).1;simpa using this
theorem at_some {m:List En} (h:Mem m) {k:Bs} {x:En} (hg:getM m k=some x):m[plc m k]?=some x:=by
 have e:=split_some h.2 hg
 have:(bel k m++x :: abv k m)[(bel k m).length]?=some x:=by simp
 unfold plc;rw[<- e] at this;exact this
theorem at_none {m:List En} (h:Mem m) {k:Bs} (hg:getM m k=none):∀ y,m[plc m k]?=some y->keyE y≠k:=by
 intro y hy q
 have:=getM_mem h.2 (mem_of_getElem? hy)
 rw[q,hg] at this;cases this
def fndI (m:List En) (k:Bs):Int:=if okM m=true then (match getM m k with | some _=>(plc m k:Nat) | none=>-1) else -1
theorem k35 (m:List En) (hl:m.length<=2000) (hB:∀ e∈m,BE e) (k:Bs):G0 35 [.sl .no 8 (ens m),.str k] []=some (.int .i64 (fndI m k),[]):=by
 have a1:=k66 m hl hB;unfold fndI;refine contract F35 rfl rfl rfl ?_;cases hq:okM m with
 | false =>
  rw[hq] at a1;simp only[Bool.false_eq_true,if_false] at a1 ⊢;have a2:=k74 [] k (by simp) 0 ⟨by simp,fun h x hx=>by simp at hx⟩;simp only[F35,go_sem,a1,a2,Bool.not_false]
 | true =>
  rw[hq] at a1;simp only[if_true] at a1 ⊢;obtain⟨h1,h2⟩:=(okM_iff m).1 hq;have hlb:=lb_key h2 k;rw[mem_map h2] at a1;have a2:=k74 (m.map keyE) k (by simp;omega) (plc m k) hlb;have h0:(0:Int)<=((plc m k:Nat):Int):=by omega
  have hle:=plc_le h2 k;cases hg:getM m k with
  | some x =>
   have e1:=at_some h2 hg;have e2:(m.map keyE)[plc m k]?=some k:=by rw[getElem?_map,e1];simp [(getM_some hg).2]
   have hr:=strs_at e2;have hlt:plc m k < m.length:=by
    by_cases q:plc m k < m.length
    ·exact q
    ·rw[getElem?_eq_none (by omega)] at e1;cases e1
   have hne:¬ ((plc m k:Nat):Int)=(m.length:Int):=by omega
   have hkk:(k != k)=false:=by simp
   simp only[F35,go_sem,a1,a2,Bool.not_true,strs_len,length_map,hne,h0,hr,hkk]
  | none =>
   by_cases q:plc m k < m.length
   ·have e1:m[plc m k]?=some m[plc m k]:=getElem?_eq_getElem q
    have hk:=at_none h2 hg _ e1;generalize m[plc m k]=y at e1 hk;have e2:(m.map keyE)[plc m k]?=some (keyE y):=by rw[getElem?_map,e1];rfl
    have hr:=strs_at e2;have hne:¬ ((plc m k:Nat):Int)=(m.length:Int):=by omega
    have hkk:(keyE y != k)=true:=by simpa using hk
    simp only[F35,go_sem,a1,a2,Bool.not_true,strs_len,length_map,hne,h0,hr,hkk]
   ·have he:((plc m k:Nat):Int)=(m.length:Int):=by omega
    simp only[F35,go_sem,a1,a2,Bool.not_true,strs_len,length_map,he]
theorem l71k (m:List En) (hl:m.length<=2000) (hB:∀ e∈m,BE e) (k:Bs) (n:Nat) (hn:isLb (m.map keyE) k n):∀ (d i:Nat),i+d=n ->
  execX G0 L71_0 (ST [(0,.sl .no 8 (ens m)),(1,.str k),(5,.int .i64 i)] [] [])=some (.ex 0,ST [(0,.sl .no 8 (ens m)),(1,.str k),(5,.int .i64 n),(18,.bool false)] [] [])
 | 0,i,h=>by
  have:i=n:=by omega
  subst this;have hle:=hn.1;rw[length_map] at hle;rw[Y_loop (L:=L71_0) rfl];by_cases q:i < m.length
  ·have q':(i:Int) < (m.length:Int):=by omega
   have h0:(0:Int)<=(i:Int):=by omega
   have hg:m[i]?=some m[i]:=getElem?_eq_getElem q;have hBe:=hB _ (getElem_mem q);generalize m[i]=e at hg hBe;have hr:=ens_at hg;have a1:=k26 e hBe;simp only[rowE] at a1;have hx:=hn.2 i (keyE e) (by rw[getElem?_map,hg];rfl);rw[decide_eq_false (Nat.lt_irrefl i)] at hx;simp only[go_sem,ens_len,q',h0,hr,a1,ltB_def,hx]
  ·have q':¬ (i:Int) < (m.length:Int):=by omega
   simp only[go_sem,ens_len,q']
 | d+1,i,h=>by
  have hle:=hn.1;rw[length_map] at hle;have q:i < m.length:=by omega
  have q':(i:Int) < (m.length:Int):=by omega
  have h0:(0:Int)<=(i:Int):=by omega
  have hw:IntKind.i64.wrap ((i:Int)+1)=((i+1:Nat):Int):=by rw[w64 (by omega) (by omega)];rfl
  have hg:m[i]?=some m[i]:=getElem?_eq_getElem q;have hBe:=hB _ (getElem_mem q);generalize m[i]=e at hg hBe;have hr:=ens_at hg;have a1:=k26 e hBe;simp only[rowE] at a1;have hx:=hn.2 i (keyE e) (by rw[getElem?_map,hg];rfl);rw[decide_eq_true (show i < n by omega)] at hx;have ih:=l71k m hl hB k n hn d (i+1) (by omega);rw[Y_loop (L:=L71_0) rfl];simp only[go_sem,ens_len,q',h0,hr,a1,ltB_def,hx,hw];exact ih
theorem k71 (m:List En) (hl:m.length<=2000) (hB:∀ e∈m,BE e) (hm:Mem m) (k:Bs):G0 71 [.sl .no 8 (ens m),.str k] []=some (.int .i64 (plc m k),[]):=by
 have x:=l71k m hl hB k (plc m k) (lb_key hm k) (plc m k) 0 (by omega);have ec:((0:Nat):Int)=0:=rfl;rw[ec] at x;refine contract F71 rfl rfl rfl ?_;simp only[F71,go_sem,x]
theorem k36 (m:List En) (hl:m.length<=2000) (hB:∀ e∈m,BE e) (k:Bs):G0 36 [.sl .no 8 (ens m),.str k] []=some (.int .i64 (fndI m k),[]):=by
 have a1:=k32 m hl hB;unfold fndI;refine contract F36 rfl rfl rfl ?_;cases hq:okM m with
 | false =>
  rw[hq] at a1;simp only[Bool.false_eq_true,if_false];simp only[F36,go_sem,a1,Bool.not_false]
 | true =>
  rw[hq] at a1;simp only[if_true];obtain⟨h1,h2⟩:=(okM_iff m).1 hq;have a2:=k71 m hl hB h2 k;have h0:(0:Int)<=((plc m k:Nat):Int):=by omega
  by_cases q:plc m k < m.length
  ·have q':((plc m k:Nat):Int) < (m.length:Int):=by omega
   have hg:m[plc m k]?=some m[plc m k]:=getElem?_eq_getElem q;have hBe:=hB _ (getElem_mem q);generalize m[plc m k]=e at hg hBe;have hr:=ens_at hg;have a3:=k26 e hBe;simp only[rowE] at a3;cases hs:getM m k with
   | some x =>
    have e1:=at_some h2 hs;rw[hg] at e1;cases e1;rw[(getM_some hs).2] at a3;simp only[F36,go_sem,a1,a2,Bool.not_true,ens_len,q',h0,hr,a3,beq_self_eq_true]
   | none =>
    have hk:=at_none h2 hs _ hg;have hkk:(keyE e == k)=false:=by simpa using hk
    simp only[F36,go_sem,a1,a2,Bool.not_true,ens_len,q',h0,hr,a3,hkk]
  ·have q':¬ ((plc m k:Nat):Int) < (m.length:Int):=by omega
   cases hs:getM m k with
   | some x =>
    have e1:=at_some h2 hs;rw[getElem?_eq_none (by omega)] at e1;cases e1
   | none =>
    simp only[F36,go_sem,a1,a2,Bool.not_true,ens_len,q']
end Go.Av
namespace Go.Av
open Go.Nt
attribute [-go_sem] appSA_ss mklA_int
theorem ens_one (e:En):[[AV.sl .no 3 (tks e.S),.sl .no 3 (tks e.T),.str e.p,.str e.n,.str e.a,.str e.j,.int .i64 e.c,.int .i64 e.o]]=ens [e]:=rfl
theorem ens_nil:ens []=[]:=rfl
def putE (m:List En) (e:En):Int:=if okM m=true then (if vE e=0 then (if getM m (keyE e)=none/\1024<=m.length then 3 else 0) else vE e) else 1
def putV (m:List En) (e:En):List En:=if putE m e=0 then putM m e else []
theorem putE_1 {m:List En} {e:En} (h:okM m=false):putE m e=1/\putV m e=[]:=by
 have:putE m e=1:=by unfold putE;rw[h];rfl
 exact⟨this,by unfold putV;rw[this];rfl⟩
theorem putE_2 {m:List En} {e:En} (h:okM m=true) (hv:vE e≠0):putE m e=vE e/\putV m e=[]:=by
 have:putE m e=vE e:=by unfold putE;rw[if_pos h,if_neg hv]
 exact⟨this,by unfold putV;rw[this,if_neg hv]⟩
theorem putE_3 {m:List En} {e:En} (h:okM m=true) (hv:vE e=0) (hg:getM m (keyE e)=none) (hc:1024<=m.length):putE m e=3/\putV m e=[]:=by
 have:putE m e=3:=by unfold putE;rw[if_pos h,if_pos hv,if_pos ⟨hg,hc⟩]
 exact⟨this,by unfold putV;rw[this];rfl⟩
theorem putE_0 {m:List En} {e:En} (h:okM m=true) (hv:vE e=0) (hg:¬ (getM m (keyE e)=none/\1024<=m.length)):putE m e=0/\putV m e=putM m e:=by
 have:putE m e=0:=by unfold putE;rw[if_pos h,if_pos hv,if_neg hg]
 exact⟨this,by unfold putV;rw[this];rfl⟩
theorem pt_some {m:List En} (hm:Mem m) {e x:En} (hg:getM m (keyE e)=some x):m.take (plc m (keyE e))++[e]++m.drop (plc m (keyE e)+1)=putM m e:=by
 have hs:=split_some hm.2 hg;unfold putM plc;generalize bel (keyE e) m=B at *;generalize abv (keyE e) m=A at *;subst hs;simp
theorem pt_none {m:List En} (hm:Mem m) {e:En} (hg:getM m (keyE e)=none):m.take (plc m (keyE e))++[e]++m.drop (plc m (keyE e))=putM m e:=by
 have hs:=split_none hm.2 hg;unfold putM plc;generalize bel (keyE e) m=B at *;generalize abv (keyE e) m=A at *;subst hs;simp
theorem plc_lt {m:List En} (hm:Mem m) {k:Bs} {x:En} (hg:getM m k=some x):plc m k < m.length:=by
 have e1:=at_some hm hg;by_cases q:plc m k < m.length
 ·exact q
 ·rw[getElem?_eq_none (by omega)] at e1;cases e1
end Go.Av
namespace Go.Av
open Go.Nt
attribute [-go_sem] appSA_ss mklA_int
theorem cls_split (m:List En) (i:Nat):cls m=cls (m.take i)++cls (m.drop i):=by rw[<- cls_app,take_append_drop]
theorem cls_one (e:En):cls [e]=rowE e:=by simp [cls,ens]
theorem take_len {m:List En} {i:Nat} (h:i<=m.length):(cls (m.take i)).length=i*8:=by rw[cls_len,length_take,Nat.min_eq_left h]
theorem putC_set (m:List En) (i:Nat) (e:En) (hi:i < m.length):putC (i*8) (rowE e) (cls m)=some (cls (m.take i++[e]++m.drop (i+1))):=by
 have hd:m.drop i=m[i] :: m.drop (i+1):=drop_eq_getElem_cons hi
 have:=putC_app (cls (m.take i)) (cls (m.drop i)) (rowE e) (by rw[cls_len,row_len,length_drop];omega)
 rw[take_len (by omega),<- cls_split] at this;rw[this,hd,cls_cons,row_len,cls_app,cls_app,cls_one]
 congr 2
theorem set_len {m:List En} {i:Nat} {e:En} (hi:i < m.length):(m.take i++[e]++m.drop (i+1)).length=m.length:=by simp;omega
theorem ins_len {m:List En} {i:Nat} {e:En} (hi:i<=m.length):(m.take i++[e]++m.drop i).length=m.length+1:=by simp;omega
theorem insX_cls (m:List En) (i:Nat) (e:En) (hi:i<=m.length):insX 8 i (cls m) [rowE e]=cls (m.take i++[e]++m.drop i):=by
 have h1:(cls m).take (i*8)=cls (m.take i):=by
  rw[cls_split m i,<- take_len hi,take_left]
 have h2:(cls m).drop (i*8)=cls (m.drop i):=by
  conv=>lhs;rw[cls_split m i]
  rw[<- take_len hi,drop_left]
 unfold insX;rw[h1,h2,cls_app,cls_app,cls_one];simp
theorem k70 (m:List En) (hl:m.length<=2000) (k i:Nat) (e:En) (hi:i<=m.length):G0 70 [.ss k 0 m.length 8,.int .i64 i,.sl .full 8 [rowE e]] (List.replicate k dead++[cls m])=some (.ss (k+1) 0 (m.length+1) 8,List.replicate (k+1) dead++[cls (m.take i++[e]++m.drop i)]):=by
 by_cases q:i < m.length
 ·refine Gx_base ?_
  show ((List.replicate k dead++[cls m])[k]?).bind (fun cells=>if 8=8/\8=8/\insOK 8 128 m.length (i:Int) cells [rowE e]=true then some (AV.ss (List.replicate k dead++[cls m]).length 0 (m.length+([]:LL).length+1) 8,(List.replicate k dead++[cls m]).set k dead++[insX 8 (i:Int).toNat cells [rowE e]]) else none)=_;rw[rD];simp only[Option.bind_some];have hok:insOK 8 128 m.length (i:Int) (cls m) [rowE e]=true:=by
   unfold insOK;simp only[Bool.and_eq_true,decide_eq_true_eq];refine⟨⟨⟨⟨⟨by omega,by omega,(cls_len m).symm⟩,cls_flat m⟩,rfl⟩,rfl⟩,?_⟩;simp only[length_singleton]
   constructor<;>omega
  rw[if_pos ⟨trivial,trivial,hok⟩,rL,rS,rN,Int.toNat_natCast,insX_cls m i e (by omega)];rfl
 ·have hin:i=m.length:=by omega
  subst hin;have hok:insOK 8 128 m.length (m.length:Int) (cls m) [rowE e]=false:=by
   have hf:¬ ((0:Int)<=(m.length:Int)/\(m.length:Int) < (m.length:Int)/\m.length*8=(cls m).length):=fun z=>by omega
   unfold insOK;rw[decide_eq_false hf];rfl
  have hB:B0 70 [.ss k 0 m.length 8,.int .i64 m.length,.sl .full 8 [rowE e]] (List.replicate k dead++[cls m])=none:=by
   show ((List.replicate k dead++[cls m])[k]?).bind (fun cells=>if 8=8/\8=8/\insOK 8 128 m.length (m.length:Int) cells [rowE e]=true then _ else none)=none;rw[rD];simp only[Option.bind_some,hok];rfl
  have ha:=appE m e k (by omega);simp only[rowE] at ha;have h0:(0:Int)<=(m.length:Int):=by omega
  have e1:m.take m.length++[e]++m.drop m.length=m++[e]:=by simp
  rw[e1];refine contract F70 hB rfl rfl ?_;by_cases hz:m.length=0
  ·have hz':(m.length:Int)=0:=by omega
   simp only[F70,rowE,go_sem,h0,ha,Int.le_refl,true_or,hz']
  ·have hz':¬ (m.length:Int)=0:=by omega
   simp only[F70,rowE,go_sem,h0,ha,Int.le_refl,hz',Int.lt_irrefl,or_self]
theorem rowsC_n {m:List En} {n:Nat} (h:m.length=n):rowsC 0 n 8 (cls m)=some (ens m):=by rw[<- h];exact rowsC_all m
theorem k27 (m:List En) (hl:m.length<=2000) (hB:∀ e∈m,BE e) (e:En) (he:BE e):G0 27 [.sl .no 8 (ens m),.agg (rowE e)] []=some (.tup [.sl .no 8 (ens (putV m e)),.int .i64 (putE m e)],[]):=by
 have a1:=k66 m hl hB;refine contract F27 rfl rfl rfl ?_;cases hq:okM m with
 | false =>
  rw[hq] at a1;simp only[Bool.false_eq_true,if_false] at a1;rw[(putE_1 hq).1,(putE_1 hq).2];simp only[F27,rowE,go_sem,a1,Bool.not_false];rfl
 | true =>
  rw[hq] at a1;simp only[if_true] at a1;obtain⟨h1,h2⟩:=(okM_iff m).1 hq;rw[mem_map h2] at a1;have a2:=k23 e he;simp only[rowE] at a2;by_cases hv:vE e=0
  case neg =>
   rw[(putE_2 hq hv).1,(putE_2 hq hv).2];simp only[F27,rowE,go_sem,a1,a2,Bool.not_true,ne_eq,hv,not_false_eq_true,decide_true];rfl
  have a3:=k64 e he;rw[<- key_join hv] at a3;simp only[rowE] at a3;have a4:=k67 (m.map keyE) (keyE e) (by simp;omega) (plc m (keyE e)) (lb_key h2 (keyE e));have a5:=k68 m hl hB;have a6:=k69 e he;simp only[rowE] at a6;have h0:(0:Int)<=((plc m (keyE e):Nat):Int):=by omega
  have hle:=plc_le h2 (keyE e);cases hg:getM m (keyE e) with
  | some x =>
   have q:=plc_lt h2 hg;have q':((plc m (keyE e):Nat):Int) < (m.length:Int):=by omega
   have ex:=at_some h2 hg;have e2:(m.map keyE)[plc m (keyE e)]?=some (keyE e):=by rw[getElem?_map,ex];simp [(getM_some hg).2]
   rw[e2,decide_eq_true rfl] at a4;have hp:=putC_set m (plc m (keyE e)) e q;have hr:=rowsC_n (set_len (e:=e) q);rw[pt_some h2 hg] at hp hr;rw[putC_L _ _ _ (by simp [rowE])] at hp;simp only[rowE] at hp;rw[(putE_0 hq hv (by rw[hg];simp)).1,(putE_0 hq hv (by rw[hg];simp)).2];simp only[F27,rowE,go_sem,a1,a2,Bool.not_true,ne_eq,hv,not_true_eq_false,decide_false,a3,a4,a5,a6,ens_len,q',h0,Int.toNat_natCast,Nat.zero_add,rD,rS,cls_blk,hp,hr,Nat.zero_le]
  | none =>
   have e2:¬ (m.map keyE)[plc m (keyE e)]?=some (keyE e):=by
    intro z;rw[getElem?_map] at z;obtain⟨y,y1,y2⟩:=Option.map_eq_some_iff.1 z;exact at_none h2 hg _ y1 y2
   rw[decide_eq_false e2] at a4;by_cases hc:1024<=m.length
   ·have hc':(1024:Int)<=(m.length:Int):=by omega
    rw[(putE_3 hq hv hg hc).1,(putE_3 hq hv hg hc).2];simp only[F27,rowE,go_sem,a1,a2,Bool.not_true,Bool.not_false,ne_eq,hv,not_true_eq_false,decide_false,a3,a4,ens_len,hc'];rfl
   ·have hc':¬ (1024:Int)<=(m.length:Int):=by omega
    have a7:=k70 m hl m.length (plc m (keyE e)) e hle;have hr:=rowsC_n (ins_len (e:=e) hle);rw[pt_none h2 hg] at a7 hr;simp only[rowE] at a7;rw[(putE_0 hq hv (by simp;omega)).1,(putE_0 hq hv (by simp;omega)).2];simp only[F27,rowE,go_sem,a1,a2,Bool.not_true,Bool.not_false,ne_eq,hv,not_true_eq_false,decide_false,a3,a4,a5,a6,mks8,ens_len,hc',a7,rD,hr,cls_blk,Nat.zero_le]
end Go.Av
namespace Go.Av
open Go.Nt
def StP (P:LL) (v:AV) (sh:LL) (out:List Tk):Prop:=
 (out=[]/\v=.sl .full 3 []/\P=sh)\/(∃ D o t,out=o++[t]/\v=.ss (P++D).length 0 (o.length+1) 3/\sh=P++D++[fl (o++[t])]/\∀ c∈D,c=dead)
theorem fl3 {f:List Tk} {i:Nat} {t:Tk} (h:f[i]?=some t):((fl f).drop (i*3)).take 3=[AV.int .i64 t.1,.str t.2.1,.int .i64 t.2.2]:=by
 have hi:i < f.length:=by
  by_cases q:i < f.length
  ·exact q
  ·rw[getElem?_eq_none (by omega)] at h;cases h
 have hd:f.drop i=t :: f.drop (i+1):=by
  rw[drop_eq_getElem_cons hi]
  congr 1
  rw[getElem?_eq_getElem hi] at h;exact Option.some.inj h
 have e:fl f=fl (f.take i)++fl (f.drop i):=by rw[<- fl_app,take_append_drop]
 have hl:(fl (f.take i)).length=i*3:=by rw[fl_len,length_take,Nat.min_eq_left (by omega)]
 rw[e,<- hl,drop_left,hd,fl_cons];rfl
theorem flatL3 (a:Int) (s:Bs) (c:Int):flatL [AV.int .i64 a,.str s,.int .i64 c]=some [AV.int .i64 a,.str s,.int .i64 c]:=rfl
theorem getP {P:LL} {so:Nat} {c:List AV} (h:P[so]?=some c) (X Y:LL):(P++X++Y)[so]?=some c:=by
 have hi:so < P.length:=by
  by_cases q:so < P.length
  ·exact q
  ·rw[getElem?_eq_none (by omega)] at h;cases h
 rw[append_assoc,getElem?_append_left hi,h]
theorem l99s (P:LL) (so:Nat) (f:List Tk) (hP:P[so]?=some (fl f)) (hf:f.length<=100000):∀ (k i:Nat) (out:List Tk) (v:AV) (sh:LL),i+k=f.length->out.length<=i->tot out+tot (f.drop i)<=1000000->StP P v sh out ->
  ∃ v' sh',StP P v' sh' ((f.drop i).foldl pn out) /\
   execX G1 L99_0s (ST [(0,.ss so 0 f.length 3),(3,v),(8,.int .i64 f.length),(9,.int .i64 i)] [] sh)=some (.ex 0,ST [(0,.ss so 0 f.length 3),(3,v'),(8,.int .i64 f.length),(9,.int .i64 f.length),(10,.bool false)] [] sh')
 | 0,i,out,v,sh,h1,h2,h3,hst=>by
  have:i=f.length:=by omega
  subst this;refine⟨v,sh,by rw[drop_of_length_le (Nat.le_refl _)];exact hst,?_⟩;rcases hst with ⟨rfl,rfl,rfl⟩ | ⟨D,o,t,rfl,rfl,rfl,hD⟩
  ·rw[Y_loop (L:=L99_0s) rfl]
   simp only[go_sem,Int.lt_irrefl]
  ·rw[Y_loop (L:=L99_0s) rfl]
   simp only[go_sem,Int.lt_irrefl]
 | k+1,i,out,v,sh,h1,h2,h3,hst=>by
  have hi:i < f.length:=by omega
  have h4:(i:Int) < (f.length:Int):=by omega
  have h0:(0:Int)<=(i:Int):=by omega
  have hw:IntKind.i64.wrap ((i:Int)+1)=((i+1:Nat):Int):=by rw[w64 (by omega) (by omega)];rfl
  have hg:f[i]?=some f[i]:=getElem?_eq_getElem hi;have hd:f.drop i=f[i] :: f.drop (i+1):=drop_eq_getElem_cons hi;generalize f[i]=T at hg hd;have hr:=fl3 hg;obtain⟨kk,s,id⟩:=T;rw[hd] at h3 ⊢;rw[tot_cons] at h3;simp only[foldl_cons];simp only[] at h3;by_cases c1:kk=1
  ·by_cases c2:s=[]
   ·subst c1 c2
    rw[pn_empty];obtain⟨v',sh',p1,p4⟩:=l99s P so f hP hf k (i+1) out v sh (by omega) (by omega) (by simp only[length_nil] at h3;omega) hst;refine⟨v',sh',p1,?_⟩;rcases hst with ⟨rfl,rfl,rfl⟩ | ⟨D,o,t,rfl,rfl,rfl,hD⟩
    ·rw[Y_loop (L:=L99_0s) rfl]
     simp only[go_sem,h4,h0,hP,getP hP,hr,flatL3,hw];exact p4
    ·rw[Y_loop (L:=L99_0s) rfl]
     simp only[go_sem,h4,h0,hP,getP hP,hr,flatL3,hw];exact p4
   ·subst c1
    have hne:(s == [])=false:=by simp [c2]
    rcases hst with ⟨rfl,rfl,rfl⟩ | ⟨D,o,t,rfl,rfl,rfl,hD⟩
    ·rw[pn_first c2]
     obtain⟨v',sh',p1,p4⟩:=l99s P so f hP hf k (i+1) [(1,s,0)] (.ss P.length 0 1 3) (P++[fl [(1,s,0)]]) (by omega) (by simp) (by simp only[tot_cons,tot_nil] at *;first | done | omega) (.inr ⟨[],[],(1,s,0),rfl,by simp,by simp,by simp⟩);refine⟨v',sh',p1,?_⟩;have ha:appOK 32 1=true:=appOK_le (by decide) (by decide);rw[Y_loop (L:=L99_0s) rfl];simp only[go_sem,h4,h0,hP,getP hP,hr,flatL3,hw,hne,ha,Int.lt_irrefl];exact p4
    ·have hpos:(0:Int) < ((o.length+1:Nat):Int):=by omega
     have hlt:((o.length:Nat):Int) < ((o.length+1:Nat):Int):=by omega
     have hge:(0:Int)<=((o.length:Nat):Int):=by omega
     have hw3:IntKind.i64.wrap (((o.length+1:Nat):Int) - 1)=((o.length:Nat):Int):=by rw[w64 (by omega) (by simp at h2;omega)];omega
     have hat0:(fl (o++[t]))[o.length*3]?=some (.int .i64 t.1):=fl_at o t 0;have hat1:(fl (o++[t]))[o.length*3+1]?=some (.str t.2.1):=fl_at o t 1;by_cases c3:t.1=1
     ·rw[pn_join c2 c3]
      have hc:t.2.1.length+s.length<=140737488355328:=by simp only[tot_app,tot_cons,tot_nil] at h3;omega
      have hb:=fl_blk (o++[t]);have hp:putL (o.length*3) [.int .i64 1,.str (t.2.1++s),.int .i64 0] (fl (o++[t]))=some (fl (o++[(1,t.2.1++s,0)])):=fl_put o t (1,t.2.1++s,0);obtain⟨v',sh',p1,p4⟩:=l99s P so f hP hf k (i+1) (o++[(1,t.2.1++s,0)]) (.ss (P++D).length 0 (o.length+1) 3) (P++D++[fl (o++[(1,t.2.1++s,0)])]) (by omega) (by simp at h2 ⊢;omega) (by simp only[tot_app,tot_cons,tot_nil,length_append] at *;omega) (.inr ⟨D,o,_,rfl,rfl,rfl,hD⟩);refine⟨v',sh',p1,?_⟩;rw[Y_loop (L:=L99_0s) rfl];simp only[go_sem,h4,h0,hP,getP hP,hr,flatL3,hw,hne,hpos,hlt,hge,hw3,gD,sD,hat0,hat1,c3,Nat.add_zero,hc,hb,hp];exact p4
     ·rw[pn_new c2 c3]
      have h6:(o.length+1)*3=(fl (o++[t])).length:=by rw[fl_len];simp
      have ha:appOK 32 (o.length+1+1)=true:=appOK_le (by decide) (by simp at h2;omega);have hb:=fl_blk (o++[t]);have hn:=fl_nown (o++[t]);have e6:fl (o++[t])++[[AV.int .i64 1,.str s,.int .i64 0]].flatten=fl (o++[t]++[(1,s,0)]):=by rw[fl_app (o++[t])];rfl
      have eL:(P++D++[fl (o++[t])]).length=(P++(D++[dead])).length:=by simp
      have eA:P++D++[dead]=P++(D++[dead]):=append_assoc ..;obtain⟨v',sh',p1,p4⟩:=l99s P so f hP hf k (i+1) (o++[t]++[(1,s,0)]) (.ss (P++(D++[dead])).length 0 (o.length+1+1) 3) (P++(D++[dead])++[fl (o++[t]++[(1,s,0)])]) (by omega) (by simp at h2 ⊢;omega) (by simp only[tot_app,tot_cons,tot_nil] at *;omega) (.inr ⟨D++[dead],o++[t],(1,s,0),rfl,by simp,rfl,dd hD⟩);refine⟨v',sh',p1,?_⟩;rw[Y_loop (L:=L99_0s) rfl];simp only[go_sem,h4,h0,hP,getP hP,hr,flatL3,hw,hne,hpos,hlt,hge,hw3,gD,sD,hat0,hat1,c3,Nat.add_zero,ha,hb,hn,h6,eL,eA];rw[e6];exact p4
  ·rw[pn_nt c1]
   rcases hst with ⟨rfl,rfl,rfl⟩ | ⟨D,o,t,rfl,rfl,rfl,hD⟩
   ·rw[nil_append]
    obtain⟨v',sh',p1,p4⟩:=l99s P so f hP hf k (i+1) [(kk,s,id)] (.ss P.length 0 1 3) (P++[fl [(kk,s,id)]]) (by omega) (by simp) (by simp only[tot_cons,tot_nil] at *;first | done | omega) (.inr ⟨[],[],(kk,s,id),rfl,by simp,by simp,by simp⟩);refine⟨v',sh',p1,?_⟩;have ha:appOK 32 1=true:=appOK_le (by decide) (by decide);rw[Y_loop (L:=L99_0s) rfl];simp only[go_sem,h4,h0,hP,getP hP,hr,flatL3,hw,c1,ha];exact p4
   ·have h6:(o.length+1)*3=(fl (o++[t])).length:=by rw[fl_len];simp
    have ha:appOK 32 (o.length+1+1)=true:=appOK_le (by decide) (by simp at h2;omega);have hb:=fl_blk (o++[t]);have hn:=fl_nown (o++[t]);have e6:fl (o++[t])++[[AV.int .i64 kk,.str s,.int .i64 id]].flatten=fl (o++[t]++[(kk,s,id)]):=by rw[fl_app (o++[t])];rfl
    have eL:(P++D++[fl (o++[t])]).length=(P++(D++[dead])).length:=by simp
    have eA:P++D++[dead]=P++(D++[dead]):=append_assoc ..;obtain⟨v',sh',p1,p4⟩:=l99s P so f hP hf k (i+1) (o++[t]++[(kk,s,id)]) (.ss (P++(D++[dead])).length 0 (o.length+1+1) 3) (P++(D++[dead])++[fl (o++[t]++[(kk,s,id)])]) (by omega) (by simp at h2 ⊢;omega) (by simp only[tot_app,tot_cons,tot_nil] at *;omega) (.inr ⟨D++[dead],o++[t],(kk,s,id),rfl,by simp,rfl,dd hD⟩);refine⟨v',sh',p1,?_⟩;rw[Y_loop (L:=L99_0s) rfl];simp only[go_sem,h4,h0,hP,getP hP,hr,flatL3,hw,c1,gD,sD,ha,hb,hn,h6,eL,eA];rw[e6];exact p4
theorem k99s (P:LL) (so:Nat) (f:List Tk) (hP:P[so]?=some (fl f)) (hf:f.length<=100000) (ht:tot f<=1000000):∃ v sh,StP P v sh (nrm f)/\G1 99 [.ss so 0 f.length 3] P=some (v,sh):=by
 obtain⟨v,sh,p1,p4⟩:=l99s P so f hP hf f.length 0 [] (.sl .full 3 []) P (by omega) (by simp) (by rw[drop_zero,tot_nil];omega) (.inl ⟨rfl,rfl,rfl⟩);rw[drop_zero] at p1;have p1:StP P v sh (nrm f):=p1;refine⟨v,sh,p1,?_⟩;have ec:((0:Nat):Int)=0:=rfl;rw[ec] at p4;generalize nrm f=g at p1;refine contract F99s rfl rfl rfl ?_;rcases p1 with ⟨rfl,rfl,rfl⟩ | ⟨D,o,t,rfl,rfl,rfl,hD⟩
 ·simp only[F99s,go_sem,p4]
 ·simp only[F99s,go_sem,p4]
def FSt (v:AV) (sh:LL) (f:List Tk):Prop:=(f=[]/\v=.sl .full 3 [])\/(∃ so,v=.ss so 0 f.length 3/\1<=so/\sh[so]?=some (fl f)/\f≠[])
theorem tks_ne {f:List Tk} (h:f≠[]):∃ r l,tks f=r :: l/\l.length+1=f.length:=by
 cases f with
 | nil=>exact absurd rfl h
 | cons a f=>exact⟨_,_,rfl,by simp [tks]⟩
theorem tks_fl (f:List Tk):(tks f).flatten=fl f:=rfl
theorem app0 {f:List Tk} (h:f≠[]) (hf:f.length<=100000) (sh:LL):appSA 3 32 sh (some (tks f)) (.sl .full 3 [])=some (.ss sh.length 0 f.length 3,sh++[fl f]):=by
 obtain⟨r,l,e,hl⟩:=tks_ne h;have ha:appOK 32 (l.length+1)=true:=appOK_le (by decide) (by omega);have e2:=tks_fl f;rw[e] at e2 ⊢;rw[appSA_nil 3 32 3 (by decide),if_pos ha,e2,hl]
theorem rnl (o:Own) (sh:LL):rowsS false 3 sh (.sl o 3 [])=some []:=by simp [rowsS,rowsA]
theorem nn0 (sh:LL):appSA 3 32 sh (some []) (.sl .full 3 [])=some (.sl .full 3 [],sh):=appSA_nn 3 32 3 sh
theorem k58s {v:AV} {sh:LL} {f:List Tk} (hv:FSt v sh f) (x:Tk) (hf:f.length<=10000) (ht:tot f+x.2.1.length<=100000) :
  ∃ E v' sh',(E=[fl [x]]\/E=[dead,fl (f++[x])])/\StP (sh++E) v' sh' (nrm (f++[x]))/\G1 58 [v,.sl .full 3 [[.int .i64 x.1,.str x.2.1,.int .i64 x.2.2]]] sh=some (v',sh'):=by
 rcases hv with ⟨rfl,rfl⟩ | ⟨so,rfl,_,hs,hne⟩
 ·obtain⟨v',sh',p1,p2⟩:=k99s (sh++[fl [x]]) sh.length [x] (gD sh _) (by simp) (by simp only[tot_cons,tot_nil];omega)
  refine⟨[fl [x]],v',sh',.inl rfl,p1,?_⟩;have ha:appOK 32 1=true:=appOK_le (by decide) (by decide);rw[fl_one] at p2;have e1:([x]:List Tk).length=1:=rfl;rw[e1] at p2;have hd:demV v'=v':=by
   rcases p1 with ⟨_,rfl,_⟩ | ⟨D,o,t,_,rfl,_,_⟩<;>rfl
  refine contract F58s rfl rfl rfl ?_;rcases p1 with ⟨_,rfl,rfl⟩ | ⟨D,o,t,_,rfl,rfl,_⟩
  ·simp only[F58s,go_sem,rnl,nn0,ha,flatten_cons,flatten_nil,append_nil,p2]
  ·simp only[F58s,go_sem,rnl,nn0,ha,flatten_cons,flatten_nil,append_nil,p2]
 ·obtain⟨v',sh',p1,p2⟩:=k99s (sh++[dead]++[fl (f++[x])]) (sh++[dead]).length (f++[x]) (gD _ _) (by simp;omega) (by simp only[tot_app,tot_cons,tot_nil];omega)
  refine⟨[dead,fl (f++[x])],v',sh',.inr rfl,by rw[show sh++[dead,fl (f++[x])]=sh++[dead]++[fl (f++[x])] by simp];exact p1,?_⟩;have ha:appOK 32 (f.length+1)=true:=appOK_le (by decide) (by omega);have hA:=app0 hne (by omega) sh;have hr:=rowsC_fl f;have hb:=fl_blk f;have hn:=fl_nown f;have h6:f.length*3=(fl f).length:=(fl_len f).symm;have e6:fl f++[[AV.int .i64 x.1,.str x.2.1,.int .i64 x.2.2]].flatten=fl (f++[x]):=by rw[fl_app];rfl
  have eL:(sh++[fl f]).length=(sh++[dead]).length:=by simp
  have e1:(f++[x]).length=f.length+1:=by simp
  rw[e1] at p2;refine contract F58s rfl rfl rfl ?_;rcases p1 with ⟨_,rfl,rfl⟩ | ⟨D,o,t,_,rfl,rfl,_⟩
  ·simp only[F58s,go_sem,hs,hr,hA,gD,sD,ha,hb,hn,h6,e6,eL,p2]
  ·simp only[F58s,go_sem,hs,hr,hA,gD,sD,ha,hb,hn,h6,e6,eL,p2]
end Go.Av
namespace Go.Av
open Go.Nt
def REF (n:Nat) (E:LL):Prop:=∀ c∈E,∀ x∈c,refLt n x=true
theorem refMono {n n':Nat} (h:n<=n') {x:AV} (hx:refLt n x=true):refLt n' x=true:=by
 cases x<;>first | rfl | (simp only[refLt,decide_eq_true_eq] at hx ⊢;omega)
theorem REF.app {n:Nat} {E F:LL} (h:REF n E) (h2:REF n F):REF n (E++F):=by
 intro d hd;rcases mem_append.1 hd with q | q
 ·exact h d q
 ·exact h2 d q
theorem ref_nil (n:Nat):REF n []:=fun c hc=>by cases hc
theorem ref_dead (n:Nat) {D:LL} (h:∀ c∈D,c=dead):REF n D:=fun c hc x hx=>by
 rw[h c hc] at hx;simp only[dead,mem_singleton] at hx;subst hx;rfl
theorem ref_fl1 (n:Nat):∀ (f:List Tk),∀ x∈fl f,refLt n x=true
 | [],x,hx=>by cases hx
 | t :: f,x,hx=>by
  rw[fl_cons] at hx;simp only[mem_cons] at hx;rcases hx with rfl | rfl | rfl | hx
  ·rfl
  ·rfl
  ·rfl
  ·exact ref_fl1 n f x hx
theorem ref_fl (n:Nat) (f:List Tk):REF n [fl f]:=fun c hc=>by rw[mem_singleton] at hc;rw[hc];exact ref_fl1 n f
theorem ref_num (n:Nat) (l:List Int) (k:Nat):∀ x∈num l k,refLt n x=true:=fun x hx=>by
 simp only[num,mem_cons,not_mem_nil,or_false] at hx;rcases hx with rfl | rfl<;>rfl
theorem REF.rok {R:LL} (h:REF 0 R):Rok R:=fun l n=>by
 unfold refsOk;rw[Bool.false_or,all_eq_true];intro c hc;rw[all_eq_true];intro x hx;rcases mem_cons.1 (mem_of_mem_take hc) with rfl | hc
 ·exact ref_num _ l n x hx
 ·exact refMono (Nat.zero_le _) (h c hc x hx)
theorem REF.rok1 {R:LL} (h:REF 0 R) (m:Nat) (l:List Int) (n:Nat):refsOk false m (num l n :: R)=true:=by
 unfold refsOk;rw[Bool.false_or,all_eq_true];intro c hc;rw[all_eq_true];intro x hx;rcases mem_cons.1 (mem_of_mem_take hc) with rfl | hc
 ·exact ref_num _ l n x hx
 ·exact refMono (Nat.zero_le _) (h c hc x hx)
def FR (v:AV) (R:LL) (f:List Tk):Prop:=(f=[]/\v=.sl .full 3 [])\/(∃ so,v=.ss (so+1) 0 f.length 3/\R[so]?=some (fl f)/\f≠[])
theorem FR.scrub {v:AV} {R:LL} {f:List Tk} (h:FR v R f) (k:List Nat):scrubV k v=v:=by
 rcases h with ⟨_,rfl⟩ | ⟨so,rfl,_⟩<;>rfl
theorem FR.dem {v:AV} {R:LL} {f:List Tk} (h:FR v R f):demV v=v:=by
 rcases h with ⟨_,rfl⟩ | ⟨so,rfl,_⟩<;>rfl
theorem FR.arg {v:AV} {R:LL} {f:List Tk} (h:FR v R f):argB true v=true:=by
 rcases h with ⟨_,rfl⟩ | ⟨so,rfl,_⟩<;>rfl
theorem FR.fst {v:AV} {R:LL} {f:List Tk} (h:FR v R f) (c:List AV):FSt v (c :: R) f:=by
 rcases h with ⟨h1,h2⟩ | ⟨so,h1,h2,h3⟩
 ·exact .inl ⟨h1,h2⟩
 ·exact .inr ⟨so+1,h1,by omega,by simpa using h2,h3⟩
theorem fr_stp {c:List AV} {R E:LL} {v:AV} {sh:LL} {g:List Tk} (h:StP (c :: R++E) v sh g) (hR:REF 0 R) (hE:REF 0 E):∃ R',sh=c :: R'/\REF 0 R'/\FR v R' g:=by
 rcases h with ⟨rfl,rfl,rfl⟩ | ⟨D,o,t,rfl,rfl,rfl,hD⟩
 ·exact⟨R++E,rfl,hR.app hE,.inl ⟨rfl,rfl⟩⟩
 ·refine⟨R++E++D++[fl (o++[t])],rfl,((hR.app hE).app (ref_dead 0 hD)).app (ref_fl 0 _),.inr ⟨(R++E++D).length,?_,gD _ _,by simp⟩⟩
  simp
theorem k58g {n:Nat} (l:List Int) {v:AV} {R:LL} {f:List Tk} (hR:REF 0 R) (hv:FR v R f) (hvl:VL f) (x:Tk) (hf:f.length<=10000) (ht:tot f+x.2.1.length<=100000) :
  ∃ w R2,REF 0 R2/\FR w R2 (pn f x)/\G0 58 [v,.sl .full 3 [[.int .i64 x.1,.str x.2.1,.int .i64 x.2.2]]] (num l n :: R)=some (w,num l n :: R2):=by
 obtain⟨E,w,sh',hE,p1,p2⟩:=k58s (hv.fst (num l n)) x hf ht;have hE':REF 0 E:=by
  rcases hE with rfl | rfl
  ·exact ref_fl 0 _
  ·exact REF.app (E:=[dead]) (ref_dead 0 (by simp)) (ref_fl 0 _)
 obtain⟨R2,rfl,h1,h2⟩:=fr_stp p1 hR hE';rw[nrm_snoc hvl] at h2;exact⟨w,R2,h1,h2,Gx_base p2⟩
theorem appFR (l:List Int) {v:AV} {R:LL} {f:List Tk} (hR:REF 0 R) (hv:FR v R f) (x:Tk) (hf:f.length<=10000) :
  ∃ w R2,REF 0 R2/\FR w R2 (f++[x])/\∀ n,appSA 3 32 (num l n :: R) (some [[.int .i64 x.1,.str x.2.1,.int .i64 x.2.2]]) v=some (w,num l n :: R2):=by
 rcases hv with ⟨rfl,rfl⟩ | ⟨so,rfl,hs,hne⟩
 ·refine⟨.ss (R.length+1) 0 1 3,R++[fl [x]],hR.app (ref_fl 0 _),.inr ⟨R.length,rfl,gD _ _,by simp⟩,fun n=>?_⟩
  have ha:appOK 32 (([]:LL).length+1)=true:=appOK_le (by decide) (by decide);rw[appSA_nil 3 32 3 (by decide),if_pos ha];rfl
 ·have hso:so < R.length:=by
   by_cases q:so < R.length
   ·exact q
   ·rw[getElem?_eq_none (by omega)] at hs;cases hs
  refine⟨.ss (R.length+1) 0 (f++[x]).length 3,R.set so dead++[fl (f++[x])],?_,.inr ⟨R.length,rfl,?_,by simp⟩,fun n=>?_⟩
  ·refine REF.app ?_ (ref_fl 0 _)
   intro c hc;rcases mem_or_eq_of_mem_set hc with q | q
   ·exact hR c q
   ·rw[q];exact ref_dead 0 (D:=[dead]) (by simp) dead (by simp)
  ·rw[getElem?_append_right (by simp)]
   simp
  ·have ha:appOK 32 (f.length+1)=true:=appOK_le (by decide) (by omega)
   have e6:fl f++[[AV.int .i64 x.1,.str x.2.1,.int .i64 x.2.2]].flatten=fl (f++[x]):=by rw[fl_app];rfl
   rw[appSA_ss (so+1) f.length 32 3 (by decide),length_singleton,if_pos ha,getElem?_cons_succ,hs];simp only[Option.bind_some];rw[if_pos ⟨fl_blk f,(fl_len f).symm,fl_nown f⟩,e6,set_cons_succ];simp
structure FIn (B k n:Nat) (f ops:List Tk) (id:Int) (md:Own):Prop where
 k8:k<=8
 n0:n<=B+20*(9 - k)/\B<=100000
 f0:f.length<=8 - k
 f1:tot f<=18*(8 - k)
 o0:ops.length<=8 - k
 o1:∀ t∈ops,t.2.1.length<=18
 i0:0<=id
 i1:id<=8 - (k:Int)
 md0:md≠.no
theorem l97n (B:Nat) (l:List Int):∀ (k n:Nat) (f ops:List Tk) (id:Int) (v:AV) (R:LL) (md10:Own),FIn B k n f ops id md10->FV f ops id->REF 0 R->FR v R f ->
  ∃ n' f' ops' id' v' R' md10',n'<=B+400/\f'.length<=8/\tot f'<=144/\(ops'.length<=8/\(∀ t∈ops',t.2.1.length<=18)/\id'<=8)/\FV f' ops' id'/\REF 0 R'/\FR v' R' f' /\
   execX G0 L97_0 (ST [(0,.ptr 0 0),(2,.bool true),(3,.bool true),(9,v),(10,.sl md10 3 (tks ops)),(11,.int .i64 id),(12,.int .i64 k)] [] (num l n :: R))=some (.ex 0,ST [(0,.ptr 0 0),(2,.bool true),(3,.bool true),(9,v'),(10,.sl md10' 3 (tks ops')),(11,.int .i64 id'),(12,.int .i64 0),(21,.bool false)] [] (num l n' :: R'))
 | 0,n,f,ops,id,v,R,md10,h,fv,hR0,hv=>by
  obtain⟨k8,⟨n0,nB⟩,f0,f1,o0,o1,i0,i1,md0⟩:=h;refine⟨n,f,ops,id,v,R,md10,by omega,by omega,by omega,⟨by omega,o1,by omega⟩,fv,hR0,hv,?_⟩;have sc:=hv.scrub;rw[Y_loop (L:=L97_0) rfl];simp only[go_sem,Int.lt_irrefl,sc]
 | k+1,n,f,ops,id,v,R,md10,h,fv,hR0,hv=>by
  obtain⟨k8,⟨n0,nB⟩,f0,f1,o0,o1,i0,i1,md0⟩:=h;have hR:=REF.rok hR0;have sc:=hv.scrub;have dm:=hv.dem;have ag:=hv.arg;have hk:(0:Int) < ((k+1:Nat):Int):=by omega
  have hwk:IntKind.i64.wrap (((k+1:Nat):Int) - 1)=(k:Int):=by rw[w64 (by omega) (by omega)];omega
  have hl:=line3 l n;have h48:=c63r hR l n 3 (by omega) (by decide) (by decide);generalize hL:lineF l n 3=L at hl h48;obtain⟨s,n1⟩:=L;simp only[] at hl h48;have h36:=c41r hR l n1 8 (by omega) (by decide) (by decide);have hy:=nxt_bd l n1 8 (by decide);generalize nxt l n1 8=y at h36 hy;by_cases y0:y=0\/y=1
  ·obtain⟨x,xm,x5,hx,hx0⟩:=tb_at tbA tbA5 l (n1+1) 3 (by decide) rfl
   have h36b:=c41r hR l (n1+1) 3 (by omega) (by decide) (by decide);obtain⟨r2,r1⟩:=tot_pn f (5,x,0);obtain⟨w,R2,hR2,hw,r3⟩:=k58g (n:=n1+2) l hR0 hv fv.vl (5,x,0) (by omega) (by simp only[length_cons,length_nil];omega);have sw:=hw.scrub;have dw:=hw.dem;have fv':=fv_slot fv (tbA_nm x xm);simp only[length_cons,length_nil] at r1 r2 r3;generalize pn f (5,x,0)=r at r1 r2 r3 fv' hw;obtain⟨n',f',ops',id',v',R',md10',p1,p2,p3,p4,pf,pR,pv,p5⟩:=l97n B l k (n1+2) r ops id w R2 md10 ⟨by omega,⟨by omega,nB⟩,by omega,by omega,by omega,o1,i0,by omega,md0⟩ fv' hR2 hw;refine⟨n',f',ops',id',v',R',md10',p1,p2,p3,p4,pf,pR,pv,?_⟩;rcases y0 with rfl | rfl
   ·rw[Y_loop (L:=L97_0) rfl]
    simp only[go_sem,hk,h48,h36,h36b,mA,hx,hx0,hR l,sc,dm,ag,sw,dw,r3,hwk];exact p5
   ·rw[Y_loop (L:=L97_0) rfl]
    simp only[go_sem,hk,h48,h36,h36b,mA,hx,hx0,hR l,sc,dm,ag,sw,dw,r3,hwk];exact p5
  have hid:IntKind.i64.wrap (id+1)=id+1:=w64 (by omega) (by omega);by_cases y2:y=2
  ·obtain⟨x,xm,x5,hx,hx0⟩:=tb_at tbB tbB5 l (n1+1) 2 (by decide) rfl
   have h36b:=c41r hR l (n1+1) 2 (by omega) (by decide) (by decide);obtain⟨r2,r1⟩:=tot_pn f (4,x,id+1);obtain⟨w,R2,hR2,hw,r3⟩:=k58g (n:=n1+2) l hR0 hv fv.vl (4,x,id+1) (by omega) (by simp only[length_cons,length_nil];omega);have sw:=hw.scrub;have dw:=hw.dem;have fv':=fv_tag (k:=4) fv (.inl ⟨rfl,tbB_c x xm⟩) (by omega);simp only[length_cons,length_nil] at r1 r2 r3;generalize pn f (4,x,id+1)=r at r1 r2 r3 fv' hw;obtain⟨n',f',ops',id',v',R',md10',p1,p2,p3,p4,pf,pR,pv,p5⟩:=l97n B l k (n1+2) r ops (id+1) w R2 md10 ⟨by omega,⟨by omega,nB⟩,by omega,by omega,by omega,o1,by omega,by omega,md0⟩ fv' hR2 hw;refine⟨n',f',ops',id',v',R',md10',p1,p2,p3,p4,pf,pR,pv,?_⟩;subst y2;rw[Y_loop (L:=L97_0) rfl];simp only[go_sem,hk,h48,h36,h36b,mB,hx,hx0,hR l,sc,dm,ag,sw,dw,r3,hwk,hid];exact p5
  by_cases y3:y=3\/y=4
  ·obtain⟨x,xm,x5,hx,hx0⟩:=tb_at tbC tbC5 l (n1+1) 3 (by decide) rfl
   have h36b:=c41r hR l (n1+1) 3 (by omega) (by decide) (by decide);obtain⟨r2,r1⟩:=tot_pn f (2,x,id+1);obtain⟨w,R2,hR2,hw,r3⟩:=k58g (n:=n1+2) l hR0 hv fv.vl (2,x,id+1) (by omega) (by simp only[length_cons,length_nil];omega);have sw:=hw.scrub;have dw:=hw.dem;have fv':=fv_open fv (tbC_c x xm) (by omega);simp only[length_cons,length_nil] at r1 r2 r3;generalize pn f (2,x,id+1)=r at r1 r2 r3 fv' hw;have ha:appOK 32 (ops.length+1)=true:=appOK_le (by decide) (by omega)
   obtain⟨n',f',ops',id',v',R',md10',p1,p2,p3,p4,pf,pR,pv,p5⟩:=l97n B l k (n1+2) r (ops++[(2,x,id+1)]) (id+1) w R2 .own ⟨by omega,⟨by omega,nB⟩,by omega,by omega,by simp only[length_append,length_cons,length_nil];omega,fun t ht=>by
    rcases mem_append.1 ht with h | h
    ·exact o1 t h
    ·simp only[mem_cons,not_mem_nil,or_false] at h;subst h;simp only;omega,by omega,by omega,by decide⟩ fv' hR2 hw
   refine⟨n',f',ops',id',v',R',md10',p1,p2,p3,p4,pf,pR,pv,?_⟩;have e4:tks (ops++[(2,x,id+1)])=tks ops++[[.int .i64 2,.str x,.int .i64 (id+1)]]:=by rw[<- tks_app];rfl
   rw[e4] at p5;rcases y3 with rfl | rfl
   ·rw[Y_loop (L:=L97_0) rfl]
    simp only[go_sem,hk,h48,h36,h36b,mC,hx,hx0,hR l,sc,dm,ag,sw,dw,r3,hwk,hid,appA_gen md10 .full md0 3 32 (by decide),tks_len,ha];exact p5
   ·rw[Y_loop (L:=L97_0) rfl]
    simp only[go_sem,hk,h48,h36,h36b,mC,hx,hx0,hR l,sc,dm,ag,sw,dw,r3,hwk,hid,appA_gen md10 .full md0 3 32 (by decide),tks_len,ha];exact p5
  by_cases y5:y=5\/y=6
  ·by_cases hop:1<=ops.length
   ·have hm1:IntKind.i64.wrap ((ops.length:Int) - 1)=((ops.length - 1:Nat):Int):=by rw[w64 (by omega) (by omega)];omega
    have hge:(0:Int)<=((ops.length - 1:Nat):Int):=by omega
    obtain⟨jn,hjn⟩:∃ jn,jn=ops.length - 1:=⟨_,rfl⟩
    rw[<- hjn] at hm1 hge;have hjl:jn < ops.length:=by omega
    have hg:ops[jn]?=some ops[jn]:=getElem?_eq_getElem hjl;have ht:=o1 _ (getElem_mem hjl);generalize ops[jn]=T at hg ht;have hr:=tks_at hg;have nm2:=c64 T.2.1 (by omega);have nm1:=nameOf_le T.2.1;have j0:(0:Int)<=(jn:Int):=by omega
    have j1:(jn:Int)<=(ops.length:Int):=by omega
    have jw:IntKind.i64.wrap ((jn:Int)+1)=((jn+1:Nat):Int):=by rw[w64 (by omega) (by omega)];rfl
    have j2:(0:Int)<=((jn+1:Nat):Int):=by omega
    have j3:((jn+1:Nat):Int)<=(ops.length:Int):=by omega
    obtain⟨r2,r1⟩:=tot_pn f (3,nameOf T.2.1,T.2.2);obtain⟨w,R2,hR2,hw,r3⟩:=k58g (n:=n1+1) l hR0 hv fv.vl (3,nameOf T.2.1,T.2.2) (by omega) (by simp only[length_cons,length_nil];omega);have sw:=hw.scrub;have dw:=hw.dem;have fv':=fv_close fv (by omega) (split_at hg);simp only[length_cons,length_nil] at r1 r2 r3;generalize pn f (3,nameOf T.2.1,T.2.2)=r at r1 r2 r3 fv' hw;have ha:appOK 32 (ops.take jn).length=true:=appOK_le (by decide) (by simp;omega);have ha2:appOK 32 ((ops.take jn).length+(ops.drop (jn+1)).length)=true:=appOK_le (by decide) (by simp;omega);have tk:(tks ops).take jn=tks (ops.take jn):=by simp [tks,map_take]
    have td:(tks ops).drop (jn+1)=tks (ops.drop (jn+1)):=by simp [tks,map_drop]
    obtain⟨n',f',ops',id',v',R',md10',p1,p2,p3,p4,pf,pR,pv,p5⟩:=l97n B l k (n1+1) r (ops.take jn++ops.drop (jn+1)) id w R2 .own ⟨by omega,⟨by omega,nB⟩,by omega,by omega,by simp only[length_append,length_take,length_drop];omega,fun t ht=>by
     rcases mem_append.1 ht with h | h
     ·exact o1 t (mem_of_mem_take h)
     ·exact o1 t (mem_of_mem_drop h),i0,by omega,by decide⟩ fv' hR2 hw
    refine⟨n',f',ops',id',v',R',md10',p1,p2,p3,p4,pf,pR,pv,?_⟩;rcases y5 with rfl | rfl
    ·rw[Y_loop (L:=L97_0) rfl]
     simp only[go_sem,hk,h48,h36,hR l,hwk,hm1,hge,hr,nm2,j0,j1,j2,j3,jw,Bool.not_true,tks_len,tk,td,appA_gen .full .no (by decide) 3 32 (by decide),appA_gen .own .no (by decide) 3 32 (by decide),ha,ha2,tks_app,r3,sc,dm,ag,sw,dw];exact p5
    ·rw[Y_loop (L:=L97_0) rfl]
     simp only[go_sem,hk,h48,h36,hR l,hwk,hm1,hge,hr,nm2,j0,j1,j2,j3,jw,Bool.not_true,tks_len,tk,td,appA_gen .full .no (by decide) 3 32 (by decide),appA_gen .own .no (by decide) 3 32 (by decide),ha,ha2,tks_app,r3,sc,dm,ag,sw,dw];exact p5
   ·have hop0:ops=[]:=eq_nil_of_length_eq_zero (by omega)
    subst hop0;obtain⟨r2,r1⟩:=tot_pn f (1,s,0);obtain⟨w,R2,hR2,hw,r3⟩:=k58g (n:=n1+1) l hR0 hv fv.vl (1,s,0) (by omega) (by simp only[length_cons,length_nil];omega);have sw:=hw.scrub;have dw:=hw.dem;have fv':=fv_text fv (x:=(1,s,0)) rfl;simp only[length_cons,length_nil] at r1 r2 r3;generalize pn f (1,s,0)=r at r1 r2 r3 fv' hw;obtain⟨n',f',ops',id',v',R',md10',p1,p2,p3,p4,pf,pR,pv,p5⟩:=l97n B l k (n1+1) r [] id w R2 md10 ⟨by omega,⟨by omega,nB⟩,by omega,by omega,by simp,by simp,i0,by omega,md0⟩ fv' hR2 hw;refine⟨n',f',ops',id',v',R',md10',p1,p2,p3,p4,pf,pR,pv,?_⟩;rw[tks_nil] at p5;rcases y5 with rfl | rfl
    ·rw[Y_loop (L:=L97_0) rfl]
     simp only[go_sem,hk,h48,h36,hR l,hwk,tks_nil,Bool.not_true,r3,sc,dm,ag,sw,dw];exact p5
    ·rw[Y_loop (L:=L97_0) rfl]
     simp only[go_sem,hk,h48,h36,hR l,hwk,tks_nil,Bool.not_true,r3,sc,dm,ag,sw,dw];exact p5
  ·have y7:y=7:=by omega
   subst y7;obtain⟨r2,r1⟩:=tot_pn f (1,s,0);obtain⟨w,R2,hR2,hw,r3⟩:=k58g (n:=n1+1) l hR0 hv fv.vl (1,s,0) (by omega) (by simp only[length_cons,length_nil];omega);have sw:=hw.scrub;have dw:=hw.dem;have fv':=fv_text fv (x:=(1,s,0)) rfl;simp only[length_cons,length_nil] at r1 r2 r3;generalize pn f (1,s,0)=r at r1 r2 r3 fv' hw;obtain⟨n',f',ops',id',v',R',md10',p1,p2,p3,p4,pf,pR,pv,p5⟩:=l97n B l k (n1+1) r ops id w R2 md10 ⟨by omega,⟨by omega,nB⟩,by omega,by omega,by omega,o1,i0,by omega,md0⟩ fv' hR2 hw;refine⟨n',f',ops',id',v',R',md10',p1,p2,p3,p4,pf,pR,pv,?_⟩;rw[Y_loop (L:=L97_0) rfl];simp only[go_sem,hk,h48,h36,hR l,hwk,r3,sc,dm,ag,sw,dw];exact p5
theorem l97c (l:List Int) (n':Nat) (ops:List Tk) (id:Int) (hid:id<=999) (k12:AV) (s12:∀ k,scrubV k k12=k12) (md10:Own) (ho:ops.length<=8) (o1:∀ t∈ops,t.2.1.length<=18):∀ (k:Nat) (f:List Tk) (v:AV) (R:LL),k<=ops.length->f.length+k<=16->tot f+18*k<=300->FV f (ops.take k) id->REF 0 R->FR v R f ->
  ∃ g w R2,g.length<=16/\tot g<=300/\FV g [] id/\REF 0 R2/\FR w R2 g /\
   execX G0 L97_1 (ST [(0,.ptr 0 0),(2,.bool true),(3,.bool true),(9,v),(10,.sl md10 3 (tks ops)),(11,.int .i64 id),(12,k12),(15,.int .i64 ((k:Int) - 1)),(21,.bool false)] [] (num l n' :: R))=some (.ex 3,ST [(0,.ptr 0 0),(2,.bool true),(3,.bool true),(9,w),(10,.sl md10 3 (tks ops)),(11,.int .i64 id),(12,k12),(15,.int .i64 (-1)),(21,.bool false),(122,.bool false)] [] (num l n' :: R2))
 | 0,f,v,R,hk,h1,h2,fv,hR,hv=>by
  refine⟨f,v,R,by omega,by omega,by simpa using fv,hR,hv,?_⟩;have sc:=hv.scrub;have hz:¬ (0:Int)<=((0:Nat):Int) - 1:=by decide
  have hz2:((0:Nat):Int) - 1 = -1:=rfl;rw[hz2];have hz:¬ (0:Int)<=(-1:Int):=by decide
  rw[Y_loop (L:=L97_1) rfl];simp only[go_sem,hz,sc,s12]
 | k+1,f,v,R,hk,h1,h2,fv,hR,hv=>by
  have hg:ops[k]?=some ops[k]:=getElem?_eq_getElem (by omega);have ht:=o1 _ (getElem_mem (show k < ops.length by omega));have hts:ops.take (k+1)=ops.take k++ops[k] :: []:=by rw[take_add_one,hg];rfl
  generalize ops[k]=T at hg ht hts;have hr:=tks_at hg;have nm2:=c64 T.2.1 (by omega);have nm1:=nameOf_le T.2.1;have fv':=fv_close fv hid hts;rw[pn_nt (by decide),append_nil] at fv';obtain⟨w,R2,hR2,hw,ha⟩:=appFR l hR hv (3,nameOf T.2.1,T.2.2) (by omega);have ha:=ha n';simp only[] at ha;obtain⟨g,w',R3,g1,g2,g3,g4,g5,g6⟩:=l97c l n' ops id hid k12 s12 md10 ho o1 k (f++[(3,nameOf T.2.1,T.2.2)]) w R2 (by omega) (by simp;omega) (by rw[tot_app,tot_cons,tot_nil];simp only[];omega) fv' hR2 hw;refine⟨g,w',R3,g1,g2,g3,g4,g5,?_⟩;have e1:((k+1:Nat):Int) - 1=(k:Int):=by omega
  have hk0:(0:Int)<=(k:Int):=by omega
  have hw1:IntKind.i64.wrap ((k:Int) - 1)=(k:Int) - 1:=w64 (by omega) (by omega);have sc:=hv.scrub;have dm:=hv.dem;have sw:=hw.scrub;have dw:=hw.dem;rw[e1];rw[Y_loop (L:=L97_1) rfl];simp only[go_sem,hk0,hr,nm2,tks_len,ha,hw1,sc,dm,sw,dw,s12];exact g6
theorem k97 (l:List Int) (p:Nat) (hp:p<=90000) (N:Int) (hN:1<=N) (hN8:N<=8):∃ n' f,n'<=p+500/\f.length<=16/\tot f<=300/\vld f=0/\G0 97 [.ptr 0 0,.int .i64 N,.bool true,.bool true] [num l p]=some (.sl .no 3 (tks f),[num l n']):=by
 have hb:=nxt_bd l p (N+1) (by omega);have h36:=c41 l p (N+1) (by omega) (by omega) (by omega);have hc:(((nxt l p (N+1)).toNat:Nat):Int)=nxt l p (N+1):=by omega
 obtain⟨n',f,ops,id,v,R,md10,p1,p2,p3,⟨p4,p4b,p4c⟩,pf,pR,pv,p5⟩:=l97n p l (nxt l p (N+1)).toNat (p+1) [] [] 0 (.sl .full 3 []) [] .full ⟨by omega,⟨by omega,by omega⟩,by simp,by rw[tot_nil];omega,by simp,by simp,by omega,by omega,by decide⟩ fv_nil (ref_nil 0) (.inl ⟨rfl,rfl⟩);rw[hc] at p5;simp only[tks_nil] at p5;have hid:id<=999:=by omega
 obtain⟨g,w,R2,g1,g2,g3,g4,g5,g6⟩:=l97c l n' ops id hid (.int .i64 0) (fun _=>rfl) md10 p4 p4b ops.length f v R (Nat.le_refl _) (by omega) (by omega) (by rw[take_length];exact pf) pR pv;have hL:=len_le g;refine⟨n',g,by omega,g1,g2,(vld_iff g).2 ⟨g3.vl,by omega,by omega⟩,?_⟩;have hwN:IntKind.i64.wrap (N+1)=N+1:=w64 (by omega) (by omega);have hw:IntKind.i64.wrap ((ops.length:Int) - 1)=(ops.length:Int) - 1:=w64 (by omega) (by omega);have sc:=pv.scrub;have sw:=g5.scrub;have hk:=g4.rok1 1 l n';refine contract F97 rfl rfl rfl ?_;rcases g5 with ⟨rfl,rfl⟩ | ⟨so,rfl,hs,hne⟩
 ·simp only[F97,go_sem,hwN,h36,p5,tks_len,hw,g6,sc,hk,take_succ_cons,take_zero,tks_nil]
 ·have hr:=rowsC_fl g
  have hd:sameDead [num l p] (num l n' :: R2)=true:=rfl;simp only[F97,go_sem,hwN,h36,p5,tks_len,hw,g6,sc,hk,take_succ_cons,take_zero,hs,hr,hd,getElem?_cons_succ]
end Go.Av
namespace Go.Av
open Go.Nt
theorem vl_pre {a b:List Tk} (h:VL (a++b)):VL a:=by
 unfold VL at h ⊢;rw[chks_app] at h
 split at h
 ·rename_i q;exact absurd h q
 ·rename_i q;exact Decidable.not_not.1 q
theorem vl_at {f:List Tk} (h:VL f) {i:Nat} {x:Tk} (hg:f[i]?=some x):VL (f.take i)/\chk (f.take i) x=0/\f.take (i+1)=f.take i++[x]:=by
 have ht:f.take (i+1)=f.take i++[x]:=by rw[take_add_one,hg];rfl
 have h1:VL (f.take (i+1)):=vl_pre (b:=f.drop (i+1)) (by rw[take_append_drop];exact h);rw[ht] at h1;obtain⟨a,b⟩:=(chks_snoc _ _).1 h1;exact⟨a,b,ht⟩
theorem line2 (l:List Int) (n:Nat):(lineF l n 2).1.length<=12/\(lineF l n 2).2<=n+8:=by
 have hb:=nxt_bd l n 3 (by omega);have h1:=lnF_len l (nxt l n 3).toNat (n+1) [];have h2:=lnF_n l (nxt l n 3).toNat (n+1) [];simp only[length_nil] at h1;show (lnF l (nxt l n 3).toNat (n+1) []).1.length<=12/\(lnF l (nxt l n 3).toNat (n+1) []).2<=n+8;omega
def tbT (s:Bs):List Bs:=[[114,111,116],[100,97,115,32,65,117,116,111],[],[101,105,110,32]++s,s]
theorem tbT_at (s:Bs) (l:List Int) (n:Nat):∃ x:Bs,x.length<=s.length+8/\(strs (tbT s))[(nxt l n 5).toNat]?=some [.str x]/\0<=nxt l n 5:=by
 have hb:=nxt_bd l n 5 (by decide);generalize nxt l n 5=y at hb;obtain⟨k,rfl⟩:∃ k:Nat,y=(k:Int):=⟨y.toNat,by omega⟩
 have hk:k < 5:=by omega
 rw[Int.toNat_natCast]
 match k,hk with
 | 0,_=>exact⟨_,by simp,rfl,by omega⟩
 | 1,_=>exact⟨_,by simp,rfl,by omega⟩
 | 2,_=>exact⟨_,by simp,rfl,by omega⟩
 | 3,_=>exact⟨[101,105,110,32]++s,by simp,rfl,by omega⟩
 | 4,_=>exact⟨_,Nat.le_add_right _ _,rfl,by omega⟩
theorem l98k (l:List Int) (f:List Tk) (hf:f.length<=16) (hft:tot f<=300) (hv:VL f) (o:Own) (B:Nat) (hB:B<=100000):∀ (k i n:Nat) (t:List Tk) (md:Own),i+k=f.length->n<=B+20*i->VL t->tg t=tg (f.take i)->t.length<=2*i->tot t<=tot (f.take i)+20*i ->
  ∃ n' t' md',n'<=B+20*f.length/\VL t'/\tg t'=tg f/\t'.length<=2*f.length/\tot t'<=tot f+20*f.length /\
   execX G0 L98_0 (ST [(0,.ptr 0 0),(1,.sl o 3 (tks f)),(5,.sl md 3 (tks t)),(9,.int .i64 f.length),(10,.int .i64 i)] [] [num l n])=some (.ex 0,ST [(0,.ptr 0 0),(1,.sl o 3 (tks f)),(5,.sl md' 3 (tks t')),(9,.int .i64 f.length),(10,.int .i64 f.length),(11,.bool false)] [] [num l n'])
 | 0,i,n,t,md,h,hn,h1,h2,h3,h4=>by
  have:i=f.length:=by omega
  subst this;rw[take_length] at h2 h4;refine⟨n,t,md,hn,h1,h2,h3,h4,?_⟩;rw[Y_loop (L:=L98_0) rfl];simp only[go_sem,Int.lt_irrefl]
 | k+1,i,n,t,md,h,hn,h1,h2,h3,h4=>by
  have hi:i < f.length:=by omega
  have c4:(i:Int) < (f.length:Int):=by omega
  have c0:(0:Int)<=(i:Int):=by omega
  have hw:IntKind.i64.wrap ((i:Int)+1)=((i+1:Nat):Int):=by rw[w64 (by omega) (by omega)];rfl
  have hg:f[i]?=some f[i]:=getElem?_eq_getElem hi;have hs:=tot_le' _ (getElem_mem hi);generalize f[i]=T at hg hs;obtain⟨v1,v2,v3⟩:=vl_at hv hg;have hr:=tks_at hg;have ht1:tot (f.take (i+1))=tot (f.take i)+T.2.1.length:=by rw[v3,tot_app,tot_cons,tot_nil];omega
  have htl:tot (f.take i)<=300:=by
   have:tot f=tot (f.take i)+tot (f.drop i):=by rw[<- tot_app,take_append_drop]
   omega
  obtain⟨kk,s,id⟩:=T;simp only[] at hr hs ht1;by_cases hk:kk=1
  ·subst hk
   obtain⟨x,x1,x2,x3⟩:=tbT_at s l n;have h36:=c41 l n 5 (by omega) (by decide) (by decide);have hcap:[(101:UInt8),105,110,32].length+s.length<=140737488355328:=by simp;omega
   have hcap2:s.length<=140737488355324:=by omega
   have hcap3:4+s.length<=140737488355328:=by omega
   have x2':[[AV.str [114,111,116]],[AV.str [100,97,115,32,65,117,116,111]],[AV.str []],[AV.str (101 :: 105 :: 110 :: 32 :: s)],[AV.str s]][(nxt l n 5).toNat]?=some [.str x]:=x2;obtain⟨r2,r1⟩:=tot_pn t (1,x,id);have r3:=c37x h1 (1,x,id) (by omega) (by simp only[];omega);have p1:=VL_pn_text (x:=(1,x,id)) h1 rfl;have p2:=tg_pn_text (f:=t) (x:=(1,x,id)) rfl;simp only[] at r1 r2 r3;have et:tg (f.take (i+1))=tg (f.take i):=by rw[v3,tg_app,tg_no (by rfl),append_nil]
   obtain⟨n',t',md',q1,q2,q3,q4,q5,q6⟩:=l98k l f hf hft hv o B hB k (i+1) (n+1) (pn t (1,x,id)) .no (by omega) (by omega) p1 (by rw[p2,et];exact h2) (by omega) (by omega);refine⟨n',t',md',q1,q2,q3,q4,q5,?_⟩;rw[Y_loop (L:=L98_0) rfl];simp only[go_sem,c4,c0,hr,hw,hcap,hcap2,hcap3,h36,x2',x3,num_ok,r3];exact q6
  ·have h36:=c41 l n 3 (by omega) (by decide) (by decide)
   have hy:=nxt_bd l n 3 (by decide);generalize nxt l n 3=y at h36 hy;have et:tg (f.take (i+1))=tg (f.take i++[(kk,s,id)]):=by rw[v3]
   by_cases y0:y=0
   ·subst y0
    obtain⟨w1,w2⟩:=line2 l (n+1);have h48:=c63 l (n+1) 2 (by omega) (by decide) (by decide);generalize hL:lineF l (n+1) 2=L at w1 w2 h48;obtain⟨u,n1⟩:=L;simp only[] at w1 w2 h48;obtain⟨r2,r1⟩:=tot_pn t (1,u,0);have r3:=c37x h1 (1,u,0) (by omega) (by simp only[];omega);have p1:=VL_pn_text (x:=(1,u,0)) h1 rfl;have p2:=tg_pn_text (f:=t) (x:=(1,u,0)) rfl;simp only[] at r1 r2 r3;generalize pn t (1,u,0)=t1 at r1 r2 r3 p1 p2;obtain⟨e1,e2,e3⟩:=pn_tag (f:=t1) (g:=f.take i) (x:=(kk,s,id)) hk p1 (by rw[p2];exact h2) v2;obtain⟨r5,r4⟩:=tot_pn t1 (kk,s,id);have r6:=c37x p1 (kk,s,id) (by omega) (by simp only[];omega);simp only[] at r4 r5 r6;generalize pn t1 (kk,s,id)=t2 at r4 r5 r6 e1 e2 e3;obtain⟨n',t',md',q1,q2,q3,q4,q5,q6⟩:=l98k l f hf hft hv o B hB k (i+1) n1 t2 .no (by omega) (by omega) e2 (by rw[e3,et]) (by omega) (by omega);refine⟨n',t',md',q1,q2,q3,q4,q5,?_⟩;rw[Y_loop (L:=L98_0) rfl];simp only[go_sem,c4,c0,hr,hw,hk,h36,h48,num_ok,r3,r6];exact q6
   ·obtain⟨e1,e2,e3⟩:=pn_tag (f:=t) (g:=f.take i) (x:=(kk,s,id)) hk h1 h2 v2
    obtain⟨r5,r4⟩:=tot_pn t (kk,s,id);have r6:=c37x h1 (kk,s,id) (by omega) (by simp only[];omega);simp only[] at r4 r5 r6;generalize pn t (kk,s,id)=t2 at r4 r5 r6 e1 e2 e3;obtain⟨n',t',md',q1,q2,q3,q4,q5,q6⟩:=l98k l f hf hft hv o B hB k (i+1) (n+1) t2 .no (by omega) (by omega) e2 (by rw[e3,et]) (by omega) (by omega);refine⟨n',t',md',q1,q2,q3,q4,q5,?_⟩;rw[Y_loop (L:=L98_0) rfl];simp only[go_sem,c4,c0,hr,hw,hk,h36,y0,num_ok,r6];exact q6
theorem k98 (l:List Int) (p:Nat) (hp:p<=90000) (f:List Tk) (hf:f.length<=16) (hft:tot f<=300) (hv:vld f=0) (o:Own):∃ n' t,n'<=p+400/\t.length<=32/\tot t<=700/\vld t=0/\tg t=tg f/\G0 98 [.ptr 0 0,.sl o 3 (tks f)] [num l p]=some (.sl .no 3 (tks t),[num l n']):=by
 obtain⟨n',t,md,q1,q2,q3,q4,q5,q6⟩:=l98k l f hf hft ((vld_iff f).1 hv).1 o p (by omega) f.length 0 p [] .full (by omega) (by omega) rfl rfl (by simp) (by rw[tot_nil];omega);have ec:((0:Nat):Int)=0:=rfl;rw[ec,tks_nil] at q6;have hL:=len_le t;refine⟨n',t,by omega,by omega,by omega,(vld_iff t).2 ⟨q2,by omega,by omega⟩,q3,?_⟩;refine contract F98 rfl rfl rfl ?_;simp only[F98,go_sem,tks_len,q6,num_ok,take_succ_cons,take_zero]
end Go.Av
namespace Go.Av
open Go.Nt
theorem tb_in (tb:List Bs) (l:List Int) (n:Nat) (m:Int) (hm:1<=m) (h:m=(tb.length:Int)):∃ x:Bs,x∈tb/\(strs tb)[(nxt l n m).toNat]?=some [.str x]/\0<=nxt l n m:=by
 have hb:=nxt_bd l n m hm;have hi:(nxt l n m).toNat < tb.length:=by omega
 exact⟨tb[(nxt l n m).toNat],getElem_mem hi,strs_at (getElem?_eq_getElem hi),hb.1⟩
def tbF:List Bs:=[[83,97,118,101],[114,101,100,32,99,97,114],[82,101,100,32,99,97,114,115]]
def tbP:List Bs:=[[],[],[83,97,118,101],[114,101,100,32,99,97,114]]
def tbN:List Bs:=[[],[],[120],[83,97,118,101]]
def tbU:List Bs:=[[],[97,110,110],[98,111,98]]
def tbJ:List Bs:=[[],[112],[113]]
theorem mF:mksA 1 [.str []] 3 [0,1,2] [.str [83,97,118,101],.str [114,101,100,32,99,97,114],.str [82,101,100,32,99,97,114,115]]=some (.sl .full 1 (strs tbF)):=by rfl
theorem mP:mksA 1 [.str []] 4 [0,1,2,3] [.str [],.str [],.str [83,97,118,101],.str [114,101,100,32,99,97,114]]=some (.sl .full 1 (strs tbP)):=by rfl
theorem mN:mksA 1 [.str []] 4 [0,1,2,3] [.str [],.str [],.str [120],.str [83,97,118,101]]=some (.sl .full 1 (strs tbN)):=by rfl
theorem mU:mksA 1 [.str []] 3 [0,1,2] [.str [],.str [97,110,110],.str [98,111,98]]=some (.sl .full 1 (strs tbU)):=by rfl
theorem mJ:mksA 1 [.str []] 3 [0,1,2] [.str [],.str [112],.str [113]]=some (.sl .full 1 (strs tbJ)):=by rfl
theorem tbF_v:∀ x∈tbF,vld [(1,x,0)]=0:=by decide +kernel
theorem tbF_l:∀ x∈tbF,x.length<=8:=by decide
theorem tbP_p:∀ x∈tbP,perr x=0:=by decide +kernel
theorem tbP_l:∀ x∈tbP,x.length<=7:=by decide
theorem tbN_p:∀ x∈tbN,perr x=0:=by decide +kernel
theorem tbN_l:∀ x∈tbN,x.length<=4:=by decide
theorem tbU_n:∀ x∈tbU,nmOk x=true:=by decide
theorem tbU_l:∀ x∈tbU,x.length<=3:=by decide
theorem tbJ_n:∀ x∈tbJ,nmOk x=true:=by decide
theorem tbJ_l:∀ x∈tbJ,x.length<=1:=by decide
def GE (e:En):Prop:=VE e/\BE e
theorem GE_mk {f t:List Tk} {p n a j:Bs} {c o:Int} (hf:vld f=0) (ht:vld t=0) (hne:f≠[]) (htg:tg t=tg f) (pp:perr p=0) (pn:perr n=0) (na:nmOk a=true) (nj:nmOk j=true) (c0:0<=c) (c1:c<=1073741824) (o1:1<=o) (o3:o<=3) (lp:p.length<=50000) (ln:n.length<=50000) (la:a.length<=1000) (lj:j.length<=1000):GE ⟨canS f t,canT f t,p,n,a,j,c,o⟩:=by
 have hv:=mkVE hf ht hne pp pn na nj c0 c1 o1 o3;have u1:=vld_tot hv.vS;have u2:=vld_tot hv.vT;exact⟨hv,by omega,by omega,by omega,by omega,lp,ln,la,lj⟩
theorem k55 (l:List Int) (p:Nat) (hp:p<=80000):∃ n' e,n'<=p+1000/\GE e/\G0 55 [.ptr 0 0] [num l p]=some (.agg (rowE e),[num l n']):=by
 obtain⟨n1,f,a1,a2,a3,a4,a5⟩:=k97 l p (by omega) 4 (by decide) (by decide);obtain⟨f2,n2,o,b1,b2,b3,b4,b5,b6⟩:∃ (f2:List Tk) (n2:Nat) (o:Own),n2<=p+501/\f2.length<=16/\tot f2<=300/\vld f2=0/\f2≠[] /\
   ((f≠[]/\f2=f/\n2=n1/\o=.no)\/(f=[]/\n2=n1+1/\o=.full/\∃ x,f2=[(1,x,0)]/\(strs tbF)[(nxt l n1 3).toNat]?=some [.str x]/\0<=nxt l n1 3)):=by
  by_cases h:f=[]
  ·obtain⟨x,x1,x2,x3⟩:=tb_in tbF l n1 3 (by decide) rfl
   have:=tbF_l x x1
   exact⟨[(1,x,0)],n1+1,.full,by omega,by simp,by rw[tot_cons,tot_nil];simp only[];omega,tbF_v x x1,by simp,.inr ⟨h,rfl,rfl,x,rfl,x2,x3⟩⟩
  ·exact⟨f,n1,.no,by omega,a2,a3,a4,h,.inl ⟨h,rfl,rfl,rfl⟩⟩
 obtain⟨n3,t,c1,c2,c3,c4,c5,c6⟩:=k98 l n2 (by omega) f2 b2 b3 b4 o;have d1:=k76 f2 t (by omega) (by omega);obtain⟨xp,p1,p2,p3⟩:=tb_in tbP l n3 4 (by decide) rfl;obtain⟨xn,q1,q2,q3⟩:=tb_in tbN l (n3+1) 4 (by decide) rfl;obtain⟨xu,u1,u2,u3⟩:=tb_in tbU l (n3+2) 3 (by decide) rfl;obtain⟨xj,j1,j2,j3⟩:=tb_in tbJ l (n3+3) 3 (by decide) rfl;have e1:=c41 l n3 4 (by omega) (by decide) (by decide);have e2:=c41 l (n3+1) 4 (by omega) (by decide) (by decide);have e3:=c41 l (n3+2) 3 (by omega) (by decide) (by decide);have e4:=c41 l (n3+3) 3 (by omega) (by decide) (by decide);have e5:=c41 l (n3+4) 50 (by omega) (by decide) (by decide);have e6:=c41 l (n3+5) 3 (by omega) (by decide) (by decide);have e7:=c41 l n1 3 (by omega) (by decide) (by decide);have y5:=nxt_bd l (n3+4) 50 (by decide);have y6:=nxt_bd l (n3+5) 3 (by decide);have hw:IntKind.i64.wrap (1+nxt l (n3+5) 3)=1+nxt l (n3+5) 3:=w64 (by omega) (by omega);have l1:=tbP_l xp p1;have l2:=tbN_l xn q1;have l3:=tbU_l xu u1;have l4:=tbJ_l xj j1;refine⟨n3+6,⟨canS f2 t,canT f2 t,xp,xn,xu,xj,nxt l (n3+4) 50,1+nxt l (n3+5) 3⟩,by omega,GE_mk b4 c4 b5 c5 (tbP_p xp p1) (tbN_p xn q1) (tbU_n xu u1) (tbJ_n xj j1) y5.1 (by omega) (by omega) (by omega) (by omega) (by omega) (by omega) (by omega),?_⟩;refine contract F55 rfl rfl rfl ?_;rcases b6 with ⟨h,rfl,rfl,rfl⟩ | ⟨rfl,rfl,rfl,x,rfl,x2,x3⟩
 ·have hne:=nz_len h
  simp only[F55,rowE,go_sem,a5,tks_len,hne,c6,d1,mP,mN,mU,mJ,p2,p3,q2,q3,u2,u3,j2,j3,e1,e2,e3,e4,e5,e6,hw,num_ok,take_succ_cons,take_zero]
 ·have et:tks [(1,x,0)]=[[.int .i64 1,.str x,.int .i64 0]]:=rfl
  rw[et] at c6 d1;simp only[F55,rowE,go_sem,a5,tks_nil,e7,mF,x2,x3,c6,d1,mP,mN,mU,mJ,p2,p3,q2,q3,u2,u3,j2,j3,e1,e2,e3,e4,e5,e6,hw,num_ok,take_succ_cons,take_zero]
end Go.Av
