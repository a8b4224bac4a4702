/- The Concordance object: find, search. No conditions. The Concordance object: Put, Delete. No conditions. The Concordance object: Put, Delete. No conditions. The law ConcordSearches: its parts. No conditions. The law ConcordSearches. No conditions. -/
import Derived.Test.YtigalfbihapdnaaGreatDoorG6Se
import Derived.Test.YtigalfbihapdnaaGreatDoorG6XI
open List
set_option linter.unusedSimpArgs false
set_option linter.unusedVariables false
set_option linter.unusedSectionVars false
set_option maxRecDepth 100000
set_option maxHeartbeats 16000000
namespace Go.Av
open Go.Nt
def rowK (e:En):List AV:=.str (keyE e) :: rowE e
def cls9 (m:List En):List AV:=(m.map rowK).flatten
theorem cls9_cons (e:En) (m:List En):cls9 (e :: m)=rowK e++cls9 m:=rfl
theorem cls9_app (a b:List En):cls9 (a++b)=cls9 a++cls9 b:=by simp [cls9]
theorem rowK_len (e:En):(rowK e).length=9:=rfl
theorem cls9_len:∀ m:List En,(cls9 m).length=m.length*9
 | []=>rfl
 | e :: m=>by rw[cls9_cons,length_append,rowK_len,cls9_len m,length_cons];omega
theorem cls9_flat:∀ m:List En,(cls9 m).all flatB=true
 | []=>rfl
 | e :: m=>by rw[cls9_cons,all_append,cls9_flat m];rfl
theorem cls9_split (m:List En) (i:Nat):cls9 m=cls9 (m.take i)++cls9 (m.drop i):=by rw[<- cls9_app,take_append_drop]
theorem take9_len {m:List En} {i:Nat} (h:i<=m.length):(cls9 (m.take i)).length=i*9:=by rw[cls9_len,length_take,Nat.min_eq_left h]
theorem cls9_at (m:List En) (r:List AV) (i:Nat) (e:En) (h:m[i]?=some e):((cls9 m++r).drop (i*9)).take 9=rowK e:=by
 have hi:i < m.length:=by
  by_cases q:i < m.length
  ·exact q
  ·rw[getElem?_eq_none (by omega)] at h;cases h
 have hd:m.drop i=e :: m.drop (i+1):=by
  rw[drop_eq_getElem_cons hi];rw[getElem?_eq_getElem hi] at h;cases h;rfl
 rw[cls9_split m i,hd,cls9_cons,append_assoc,<- take9_len (by omega:i<=m.length),drop_left,append_assoc];exact take_left (l₁:=rowK e)
theorem k131 (sh:LL) (hr:refsOk false sh.length sh=true) (e:En) (k:Bs):G4 131 [.agg (rowK e),.str k] sh=some (.int .i64 (cmpB (keyE e) k),sh):=by
 have h:=up0 (k81 (keyE e) k) rfl rfl;refine contract F131 rfl rfl rfl ?_;simp only[F131,rowK,rowE,go_sem,h,hr,take_length]
theorem l130k (sh:LL) (hr:refsOk false sh.length sh=true) (m:List En) (hl:m.length<=2000) (o:Nat) (cells:List AV) (ho:sh[o]?=some cells) (hc:∀ (i:Nat) e,m[i]?=some e->(cells.drop (i*9)).take 9=rowK e) (k:Bs) (n:Nat) (hn:isLb (m.map keyE) k n):∀ (d i j:Nat),j - i<=d->i<=n->n<=j->j<=m.length ->
  execX G4 L130_0 (ST [(0,.ss o 0 m.length 9),(1,.str k),(2,.fn 131 []),(8,.int .i64 m.length),(9,.int .i64 i),(10,.int .i64 j)] [] sh)=some (.ex 0,ST [(0,.ss o 0 m.length 9),(1,.str k),(2,.fn 131 []),(8,.int .i64 m.length),(9,.int .i64 n),(10,.int .i64 n),(17,.bool false)] [] sh)
 | d,i,j,hd,h1,h2,h3=>by
  by_cases hij:i < j
  case neg =>
   have e1:i=n:=by omega
   have e2:j=n:=by omega
   subst e1;subst e2;rw[Y_loop (L:=L130_0) rfl];simp only[go_sem,Int.lt_irrefl]
  cases d with
  | zero=>omega
  | succ d =>
   have hij':(i:Int) < (j:Int):=by omega
   obtain⟨m1,m2,m3,m4⟩:=mid_eq i j (by omega);have hh:(i+j) / 2 < m.length:=by omega
   have hg:m[(i+j) / 2]?=some m[(i+j) / 2]:=getElem?_eq_getElem hh;generalize m[(i+j) / 2]=x at hg;have hx:=hn.2 _ _ (by rw[getElem?_map,hg];rfl:(m.map keyE)[(i+j) / 2]?=some (keyE x));have hld:=hc _ _ hg;have c:=k131 sh hr x k;have h0:(0:Int)<=(((i+j) / 2:Nat):Int):=by omega
   generalize hm:(i+j) / 2=p at *;have hp:(p:Int) < (m.length:Int):=by omega
   have hw:IntKind.i64.wrap ((p:Int)+1)=((p+1:Nat):Int):=by rw[w64 (by omega) (by omega)];rfl
   have hcm:(cmpB (keyE x) k < 0)=(ltB (keyE x) k=true):=propext cmpB_lt;simp only[rowK,rowE] at hld c;by_cases q:p < n
   ·rw[decide_eq_true q] at hx
    have ih:=l130k sh hr m hl o cells ho hc k n hn d (p+1) j (by omega) (by omega) h2 h3;rw[Y_loop (L:=L130_0) rfl];simp only[go_sem,hij',m1,m2,m3,m4,h0,hp,ho,hld,c,hcm,hx,hw];exact ih
   ·rw[decide_eq_false q] at hx
    have ih:=l130k sh hr m hl o cells ho hc k n hn d i p (by omega) h1 (by omega) (by omega);rw[Y_loop (L:=L130_0) rfl];simp only[go_sem,hij',m1,m2,m3,m4,h0,hp,ho,hld,c,hcm,hx,Bool.false_eq_true];exact ih
theorem k130 (sh:LL) (hr:refsOk false sh.length sh=true) (m:List En) (hl:m.length<=2000) (o:Nat) (cells:List AV) (ho:sh[o]?=some cells) (hc:∀ (i:Nat) e,m[i]?=some e->(cells.drop (i*9)).take 9=rowK e) (k:Bs) (n:Nat) (hn:isLb (m.map keyE) k n) :
  G4 130 [.ss o 0 m.length 9,.str k,.fn 131 []] sh=some (.tup [.int .i64 n,.bool (decide ((m.map keyE)[n]?=some k))],sh):=by
 have hn1:=hn.1;rw[length_map] at hn1;have x:=l130k sh hr m hl o cells ho hc k n hn m.length 0 m.length (by omega) (by omega) hn1 (Nat.le_refl _);have ec:((0:Nat):Int)=0:=rfl;rw[ec] at x;have h0:(0:Int)<=(n:Int):=by omega
 refine contract F130 rfl rfl rfl ?_;by_cases q:n < m.length
 ·have q':(n:Int) < (m.length:Int):=by omega
  have hg:m[n]?=some m[n]:=getElem?_eq_getElem q;generalize m[n]=y at hg;have hld:=hc _ _ hg;have c:=k131 sh hr y k;have hcm:(cmpB (keyE y) k=0)=(keyE y=k):=propext cmpB_z;have he:(m.map keyE)[n]?=some (keyE y):=by rw[getElem?_map,hg];rfl
  rw[he];simp only[rowK,rowE] at hld c;simp only[F130,go_sem,x,q',h0,ho,hld,c,hcm,hr,take_length,Option.some.injEq]
 ·have q':¬ (n:Int) < (m.length:Int):=by omega
  have he:(m.map keyE)[n]?=none:=by rw[getElem?_map,getElem?_eq_none (by omega)];rfl
  rw[he];simp only[F130,go_sem,x,q',hr,take_length,reduceCtorEq,decide_false]
theorem k130z (sh:LL) (hr:refsOk false sh.length sh=true) (k:Bs) :
  G4 130 [.sl .full 9 [],.str k,.fn 131 []] sh=some (.tup [.int .i64 0,.bool false],sh):=by
 refine contract F130 rfl rfl rfl ?_;simp only[F130,go_sem];rw[Y_loop (L:=L130_0) rfl];simp only[go_sem,length_nil,Int.lt_irrefl,hr,take_length]
theorem k86 (sh:LL) (hr:refsOk false sh.length sh=true) (m:List En) (hl:m.length<=2000) (p o:Nat) (cells:List AV) (hp:sh[p]?=some [.ss o 0 m.length 9]) (ho:sh[o]?=some cells) (hc:∀ (i:Nat) e,m[i]?=some e->(cells.drop (i*9)).take 9=rowK e) (k:Bs) (n:Nat) (hn:isLb (m.map keyE) k n) :
  G4 86 [.ptr p 0,.str k] sh=some (.tup [.int .i64 n,.bool (decide ((m.map keyE)[n]?=some k))],sh):=by
 have a:=k130 sh hr m hl o cells ho hc k n hn;refine contract F86 rfl rfl rfl ?_;simp only[F86,go_sem,hp,a,hr,take_length,all_nil,if_true]
theorem k86z (sh:LL) (hr:refsOk false sh.length sh=true) (p:Nat) (hp:sh[p]?=some [.sl .full 9 []]) (k:Bs) :
  G4 86 [.ptr p 0,.str k] sh=some (.tup [.int .i64 0,.bool false],sh):=by
 have a:=k130z sh hr k;refine contract F86 rfl rfl rfl ?_;simp only[F86,go_sem,hp,a,hr,take_length,all_nil,if_true]
theorem g51 (q:Bs) (hq:q.length<=1000000):G4 51 [.str q] []=some (.sl .no 1 (strs (phrF q)),[]):=up4 (dc16 q hq) rfl
theorem l19k (sh:LL) (w:List Bs) (hw:w.length<=1000000) (hw1:1<=w.length) (t:Bool) (m:List En) (hl:m.length<=2000) (hB:∀ e∈m,BE e) (o:Nat) (cells:List AV) (ho:sh[o]?=some cells) (hc:∀ (i:Nat) e,m[i]?=some e->(cells.drop (i*9)).take 9=rowK e):∀ (k i:Nat) (md:Own) (out:List Ht),md≠.no->i+k=m.length->out.length<=60000*i ->
  ∃ md',execX G4 L19e_0 (ST [(2,.bool t),(8,.sl .no 1 (strs w)),(9,.sl md 3 (hts out)),(16,.bool false),(20,.ss o 0 m.length 9),(21,.int .i64 m.length),(22,.int .i64 i)] [] sh)=some (.ex 0,ST [(2,.bool t),(8,.sl .no 1 (strs w)),(9,.sl md' 3 (hts (out++srF w t i (m.drop i)))),(16,.bool false),(20,.ss o 0 m.length 9),(21,.int .i64 m.length),(22,.int .i64 m.length),(23,.bool false)] [] sh)
 | 0,i,md,out,hm,h1,h2=>by
  have:i=m.length:=by omega
  subst this;refine⟨md,?_⟩;rw[Y_loop (L:=L19e_0) rfl];simp only[go_sem,Int.lt_irrefl,drop_length,srF,append_nil]
 | k+1,i,md,out,hm,h1,h2=>by
  have h3:i < m.length:=by omega
  have h4:(i:Int) < (m.length:Int):=by omega
  have h0:(0:Int)<=(i:Int):=by omega
  have hwr:IntKind.i64.wrap ((i:Int)+1)=((i+1:Nat):Int):=by rw[w64 (by omega) (by omega)];rfl
  have hd:m.drop i=m[i] :: m.drop (i+1):=drop_eq_getElem_cons h3;have hb:=hB _ (getElem_mem h3);have hld:=hc _ _ (getElem?_eq_getElem h3);have h56:=up4 (k56 w hw hw1 i m[i] hb t) rfl;have hn:=hsE_len w hw1 i m[i] hb t;obtain⟨md',ih⟩:=l19k sh w hw hw1 t m hl hB o cells ho hc k (i+1) .own (out++hsE w i m[i] t) (by decide) (by omega) (by simp;omega);refine⟨md',?_⟩;rw[hd];simp only[srF];rw[append_assoc] at ih;have ha:appOK 24 (out.length+(hsE w i m[i] t).length)=true:=appOK_le (by decide) (by omega);simp only[rowE,rowK] at h56 hld;rw[Y_loop (L:=L19e_0) rfl];simp only[go_sem,h4,h0,hwr,ho,hld,h56,appA_gen md .no hm 3 24 (by decide),hts_len,ha,hts_app];exact ih
theorem k19 (sh:LL) (hr:refsOk false sh.length sh=true) (m:List En) (hl:m.length<=2000) (hB:∀ e∈m,BE e) (p o:Nat) (cells:List AV) (hp:sh[p]?=some [.ss o 0 m.length 9]) (ho:sh[o]?=some cells) (hc:∀ (i:Nat) e,m[i]?=some e->(cells.drop (i*9)).take 9=rowK e) (q:Bs) (hq:q.length<=1000000) (t:Bool) (h:phrF q≠[]) :
  G4 19 [.ptr p 0,.str q,.bool t] sh=some (.tup [.sl .no 3 (hts (srF (phrF q) t 0 m)),.int .i64 0],sh):=by
 have a2:=g51 q hq;have hp1:1<=(phrF q).length:=by have:(phrF q).length≠0:=fun z=>h (eq_nil_of_length_eq_zero z);omega
 have hne:¬ ((phrF q).length:Int)=0:=by omega
 obtain⟨md',hx⟩:=l19k sh (phrF q) (phr_b q hq) hp1 t m hl hB o cells ho hc m.length 0 .full [] (by decide) (by omega) (by simp);rw[drop_zero,nil_append] at hx;simp only[go_sem,hts_nil] at hx;refine contract F19e rfl rfl rfl ?_;simp only[F19e,go_sem,a2,strs_len,hne,hp,hx,hr,take_length]
theorem k19z (sh:LL) (hr:refsOk false sh.length sh=true) (p:Nat) (hp:sh[p]?=some [.sl .full 9 []]) (q:Bs) (hq:q.length<=1000000) (t:Bool) (h:phrF q≠[]) :
  G4 19 [.ptr p 0,.str q,.bool t] sh=some (.tup [.sl .no 3 [],.int .i64 0],sh):=by
 have a2:=g51 q hq;have hne:¬ ((phrF q).length:Int)=0:=by have:(phrF q).length≠0:=fun z=>h (eq_nil_of_length_eq_zero z);omega
 refine contract F19e rfl rfl rfl ?_;simp only[F19e,go_sem,a2,strs_len,hne,hp];rw[Y_loop (L:=L19e_0) rfl];simp only[go_sem,length_nil,Int.lt_irrefl,hr,take_length]
theorem k19y (sh:LL) (hr:refsOk false sh.length sh=true) (p:Nat) (q:Bs) (hq:q.length<=1000000) (t:Bool) (h:phrF q=[]) :
  G4 19 [.ptr p 0,.str q,.bool t] sh=some (.tup [.sl .no 3 [],.int .i64 1],sh):=by
 have a2:=g51 q hq;rw[h,strs_nil] at a2;refine contract F19e rfl rfl rfl ?_;simp only[F19e,go_sem,a2,length_nil,hr,take_length]
end Go.Av
namespace Go.Av
open Go.Nt
def ros (m:List En):List (List AV):=m.map rowK
theorem ros_len (m:List En):(ros m).length=m.length:=by simp [ros]
theorem ros_row (m:List En):∀ r∈ros m,r.length=9:=by
 intro r h;obtain⟨e,_,rfl⟩:=List.mem_map.1 h;rfl
theorem rowsOf_cls9 (m:List En):rowsOf 9 m.length (cls9 m)=ros m:=by
 have:=rowsOf_flat' 9 (ros m) (ros_row m)
 rw[ros_len] at this;exact this
theorem rowsC_mid9 (a d r:List En):rowsC (a.length*9) d.length 9 (cls9 (a++d++r))=some (ros d):=by
 rw[cls9_app,cls9_app,<- cls9_len a,rowsC_seg (by decide) _ _ _ d.length (cls9_len d) (cls9_flat d),rowsOf_cls9]
theorem cls9_blk (m:List En):blkB (cls9 m)=true:=by
 cases m with
 | nil=>rfl
 | cons e m=>rw[cls9_cons];rfl
theorem drop9_len {m:List En} {i:Nat}:(cls9 (m.drop i)).length=(m.length - i)*9:=by rw[cls9_len,length_drop]
theorem cls9_drop (m:List En) (i:Nat) (hi:i<=m.length):(cls9 m).drop (i*9)=cls9 (m.drop i):=by
 conv=>lhs;rw[cls9_split m i]
 rw[<- take9_len hi,drop_left]
attribute [-go_sem] appSA_ss appSA_nil
theorem k87z (sh:LL) (e:En):G4 87 [.sl .full 9 [],.int .i64 0,.sl .full 9 [rowK e]] sh=some (.ss sh.length 0 1 9,sh++[cls9 [e]]):=by
 have hB:B4 87 [.sl .full 9 [],.int .i64 0,.sl .full 9 [rowK e]] sh=none:=rfl;have ha:appSA 9 144 sh (some [rowK e]) (.sl .full 9 [])=some (.ss sh.length 0 1 9,sh++[cls9 [e]]):=by
  have h1:appOK 144 (([]:LL).length+1)=true:=appOK_le (by decide) (by decide);rw[appSA_nil 9 144 9 (by decide),if_pos h1];rfl
 simp only[rowK,rowE] at ha;refine contract F87 hB rfl rfl ?_;simp only[F87,rowK,rowE,go_sem,ha,length_nil,Int.le_refl,true_or]
theorem k87 (sh:LL) (o:Nat) (m:List En) (hm:1<=m.length) (hl:m.length<=2000) (ho:sh[o]?=some (cls9 m)) (e:En):G4 87 [.ss o 0 m.length 9,.int .i64 0,.sl .full 9 [rowK e]] sh=some (.ss sh.length 0 (m.length+1) 9,sh.set o dead++[cls9 (e :: m)]):=by
 refine Gx_base ?_;show (sh[o]?).bind (fun cells=>if 9=9/\9=9/\insOK 9 144 m.length 0 cells [rowK e]=true then some (AV.ss sh.length 0 (m.length+([]:LL).length+1) 9,sh.set o dead++[insX 9 (0:Int).toNat cells [rowK e]]) else none)=_;rw[ho];simp only[Option.bind_some];have hok:insOK 9 144 m.length 0 (cls9 m) [rowK e]=true:=by
  unfold insOK;simp only[Bool.and_eq_true,decide_eq_true_eq];refine⟨⟨⟨⟨⟨by omega,by omega,(cls9_len m).symm⟩,cls9_flat m⟩,rfl⟩,rfl⟩,?_⟩;simp only[length_singleton]
  constructor<;>omega
 rw[if_pos ⟨trivial,trivial,hok⟩]
 have:insX 9 (0:Int).toNat (cls9 m) [rowK e]=cls9 (e :: m):=by
  unfold insX;rw[cls9_cons];simp
 rw[this];rfl
theorem k88 (sh:LL) (o:Nat) (m:List En) (hl:m.length<=2000) (i:Nat) (hi:i < m.length) (ho:sh[o]?=some (cls9 m)):G4 88 [.ss o 0 m.length 9,.int .i64 i,.int .i64 ((i+1:Nat):Int)] sh=some (.ss o 0 (m.length - 1) 9,sh.set o (cls9 (m.take i++m.drop (i+1))++ze9)):=by
 have hol:o < sh.length:=by
  by_cases q:o < sh.length
  ·exact q
  ·rw[getElem?_eq_none (by omega)] at ho;cases ho
 have hW:(m.take i++m.drop (i+1)).length=m.length - 1:=by simp;omega
 have a0:(0:Int)<=(i:Int):=by omega
 have a1:(i:Int)<=((i+1:Nat):Int):=by omega
 have a2:((i+1:Nat):Int)<=(m.length:Int):=by omega
 have a3:((i:Int)=((i+1:Nat):Int))=False:=eq_false (by omega);have a4:(i:Int)<=(m.length:Int):=by omega
 have a5:(0:Int)<=((i+1:Nat):Int):=by omega
 have a6:(((i+1:Nat):Int)=0)=False:=eq_false (by omega);have hsum:i+(m.length - (i+1))=m.length - 1:=by omega
 obtain⟨c',hc'⟩:∃ c',c'=cls9 (m.take i++m.drop (i+1))++cls9 (m.drop (m.length - 1)):=⟨_,rfl⟩
 have hcl:c'.length=m.length*9:=by rw[hc',length_append,cls9_len,hW,drop9_len];omega
 have hs1:(sh.set o c')[o]?=some c':=by rw[getElem?_set_self hol]
 have hput:putC (i*9) (ros (m.drop (i+1))).flatten (cls9 m)=some c':=by
  have hp:=putC_app (cls9 (m.take i)) (cls9 (m.drop i)) (cls9 (m.drop (i+1))) (by rw[drop9_len,drop9_len];omega);have e3:(cls9 (m.drop i)).drop (cls9 (m.drop (i+1))).length=cls9 (m.drop (m.length - 1)):=by
   rw[drop9_len,cls9_drop _ _ (by simp;omega),drop_drop]
   congr 2
  rw[take9_len (by omega),<- cls9_split,e3] at hp;rw[hc',cls9_app];exact hp
 have hblk:blkB c'=true:=by
  rw[hc',<- cls9_app];exact cls9_blk _
 have happ:appCA 9 sh (some (ros (m.drop (i+1)))) (.ss o 0 i 9)=some (.ss o 0 (m.length - 1) 9,sh.set o c'):=by
  have:=appCA_some (sh:=sh) (o:=o) (n:=i) (l2:=ros (m.drop (i+1))) (z:=9) (by decide) (cells:=cls9 m) ho (cls9_blk m) (by rw[ros_len,length_drop,cls9_len];omega) hput
  rw[this,ros_len,length_drop,hsum]
 have hslx:=slxA_both (sh:=sh.set o c') (z:=9) (by decide) (o:=o) (off:=0) (n:=m.length - 1) (k:=.i64) (k':=.i64) (i:=m.length - 1) (j:=m.length) (cells:=c') hs1 hblk (by rw[hcl];omega) (by omega);rw[Nat.zero_add,show m.length - (m.length - 1)=1 by omega] at hslx;have hclr:putC ((m.length - 1)*9) (zeroRow ze9 1) c'=some (cls9 (m.take i++m.drop (i+1))++ze9):=by
  have hp:=putC_app (cls9 (m.take i++m.drop (i+1))) (cls9 (m.drop (m.length - 1))) ze9 (by rw[drop9_len];simp;omega);have e4:(cls9 (m.drop (m.length - 1))).drop ze9.length=[]:=drop_of_length_le (by rw[drop9_len];simp;omega);rw[cls9_len,hW,e4,append_nil,<- hc'] at hp;exact hp
 have hrow:rowsC ((i+1)*9) (m.length - (i+1)) 9 (cls9 m)=some (ros (m.drop (i+1))):=by
  have:=rowsC_mid9 (m.take (i+1)) (m.drop (i+1)) []
  rw[append_nil,take_append_drop,length_take,length_drop,Nat.min_eq_left (by omega)] at this;exact this
 refine contract F88 rfl rfl rfl ?_;by_cases hlast:((i+1:Nat):Int) < (m.length:Int)
 ·simp only[F88,go_sem,a0,a1,a2,a3,a4,a5,a6,hlast,or_true,or_false,Int.le_refl,Int.toNat_natCast,Nat.zero_add,ho,hs1,set_set,hrow,happ,hslx,clrX_ss,hblk,hclr]
 ·have hdn:ros (m.drop (i+1))=[]:=by rw[drop_eq_nil_of_le (by omega)];rfl
  rw[hdn] at happ;simp only[F88,go_sem,a0,a1,a2,a3,a4,a5,a6,hlast,or_false,Int.le_refl,Int.toNat_natCast,Nat.zero_add,ho,hs1,set_set,happ,hslx,clrX_ss,hblk,hclr]
end Go.Av
namespace Go.Av
open Go.Nt
theorem g23 (e:En) (h:BE e):G4 23 [.agg (rowE e)] []=some (.int .i64 (vE e),[]):=up0 (k23 e h) rfl rfl
theorem g24 (e:En) (h:BE e):G4 24 [.agg (rowE e)] []=some (.str (keyE e),[]):=up0 (k24 e h) rfl rfl
theorem g85 (f:List Tk) (m:Own) (hf:f.length<=100000):G4 85 [.sl m 3 (tks f)] []=some (.sl .no 3 (tks f),[]):=up0 (k85 f m hf) rfl rfl
theorem mks9 (a b c d e f g h i:AV):mksA 9 ze9 1 [0] [.agg [a,b,c,d,e,f,g,h,i]]=some (.sl .full 9 [[a,b,c,d,e,f,g,h,i]]):=rfl
theorem k44z (N:List AV) (hr:refsOk false 2 [N,[.sl .full 9 []]]=true) (e:En) (he:BE e) (hv:vE e=0):G4 44 [.ptr 1 0,.agg (rowE e)] [N,[.sl .full 9 []]]=some (.int .i64 0,[N,[.ss 2 0 1 9],cls9 [e]]):=by
 have a1:=g23 e he;rw[hv] at a1;have a2:=g24 e he;have a3:=g85 e.S .no (by have:=he.S;omega);have a4:=g85 e.T .no (by have:=he.T;omega);have a5:=k86z [N,[.sl .full 9 []]] hr 1 rfl (keyE e);have a6:=k87z [N,[.sl .full 9 []]] e;simp only[rowK,rowE] at a1 a2 a6;refine contract F44 rfl rfl rfl ?_;simp only[F44,rowE,go_sem,a1,a2,a3,a4,a5,a6,mks9,length_cons,length_nil]
theorem k44 (sh:LL) (hr:refsOk false sh.length sh=true) (o:Nat) (ho1:o≠1) (m:List En) (hm:1<=m.length) (hl:m.length < 1024) (h1:sh[1]?=some [.ss o 0 m.length 9]) (ho:sh[o]?=some (cls9 m)) (e:En) (he:BE e) (hv:vE e=0) (hn:isLb (m.map keyE) (keyE e) 0) (h0:(m.map keyE)[0]?≠some (keyE e)) :
  G4 44 [.ptr 1 0,.agg (rowE e)] sh=some (.int .i64 0,(sh.set o dead++[cls9 (e :: m)]).set 1 [.ss sh.length 0 (m.length+1) 9]):=by
 have a1:=g23 e he;rw[hv] at a1;have a2:=g24 e he;have a3:=g85 e.S .no (by have:=he.S;omega);have a4:=g85 e.T .no (by have:=he.T;omega);have a5:=k86 sh hr m (by omega) 1 o (cls9 m) h1 ho (fun i e h=>by have:=cls9_at m [] i e h;rwa [append_nil] at this) (keyE e) 0 hn;rw[decide_eq_false h0] at a5;have ec:((0:Nat):Int)=0:=rfl;rw[ec] at a5;have a6:=k87 sh o m hm (by omega) ho e;have hlt:1 < sh.length:=by
  by_cases q:1 < sh.length
  ·exact q
  ·rw[getElem?_eq_none (by omega)] at h1;cases h1
 have h2:(sh.set o dead++[cls9 (e :: m)])[1]?=some [.ss o 0 m.length 9]:=by
  rw[getElem?_append_left (by simpa using hlt),getElem?_set_ne ho1];exact h1
 have hq:¬ (1024:Int)<=(m.length:Int):=by omega
 simp only[rowK,rowE] at a1 a2 a6;refine contract F44 rfl rfl rfl ?_;simp only[F44,rowE,go_sem,a1,a2,a3,a4,a5,a6,mks9,h1,h2,hq]
theorem k45 (sh:LL) (hr:refsOk false sh.length sh=true) (o:Nat) (ho1:o≠1) (m:List En) (hl:m.length<=1024) (h1:sh[1]?=some [.ss o 0 m.length 9]) (ho:sh[o]?=some (cls9 m)) (k:Bs) (i:Nat) (hi:i < m.length) (hn:isLb (m.map keyE) k i) (hk:(m.map keyE)[i]?=some k) (sh':LL) (hs:(sh.set o (cls9 (m.take i++m.drop (i+1))++ze9)).set 1 [.ss o 0 (m.length - 1) 9]=sh') (hr':refsOk false sh.length sh'=true) :
  G4 45 [.ptr 1 0,.str k] sh=some (.bool true,sh'):=by
 have a5:=k86 sh hr m (by omega) 1 o (cls9 m) h1 ho (fun i e h=>by have:=cls9_at m [] i e h;rwa [append_nil] at this) k i hn;rw[decide_eq_true hk] at a5;have a6:=k88 sh o m (by omega) i hi ho;have hw:IntKind.i64.wrap ((i:Int)+1)=((i+1:Nat):Int):=by rw[w64 (by omega) (by omega)];rfl
 have h2:(sh.set o (cls9 (m.take i++m.drop (i+1))++ze9))[1]?=some [.ss o 0 m.length 9]:=by
  rw[getElem?_set_ne ho1];exact h1
 have hlen:sh'.length=sh.length:=by rw[<- hs];simp
 have ht:sh'.take sh.length=sh':=by rw[<- hlen];exact take_length
 refine contract F45 rfl rfl rfl ?_;simp only[F45,go_sem,a5,a6,hw,h1,h2,hs,hr',ht]
theorem k45n (sh:LL) (hr:refsOk false sh.length sh=true) (o:Nat) (m:List En) (hl:m.length<=1024) (cells:List AV) (h1:sh[1]?=some [.ss o 0 m.length 9]) (ho:sh[o]?=some cells) (hc:∀ (i:Nat) e,m[i]?=some e->(cells.drop (i*9)).take 9=rowK e) (k:Bs) (i:Nat) (hn:isLb (m.map keyE) k i) (hk:(m.map keyE)[i]?≠some k) :
  G4 45 [.ptr 1 0,.str k] sh=some (.bool false,sh):=by
 have a5:=k86 sh hr m (by omega) 1 o cells h1 ho hc k i hn;rw[decide_eq_false hk] at a5;refine contract F45 rfl rfl rfl ?_;simp only[F45,go_sem,a5,hr,take_length]
end Go.Av
namespace Go.Av
open Go.Nt
theorem k46 (l:List Int):G3 46 [.sl .no 1 (ints l)] []=some (.str (lineF l 0 3).1,[]):=by
 have a:=f89 l 0 3 (by decide) (by decide) (by decide);have hn:num l 0=[.sl .no 1 (ints l),.int .i64 0]:=rfl;rw[hn] at a;refine contract F46 rfl rfl rfl ?_;simp only[F46,go_sem,a]
theorem lineF_len (l:List Int):(lineF l 0 3).1.length<=1000000:=by
 have h:=lnF_len l (nxt l 0 (3+1)).toNat (0+1) [];have hb:=nxt_bd l 0 (3+1) (by decide);unfold lineF;simp only[length_nil] at h;omega
theorem k34 (m:List En) (hl:m.length<=2000) (hB:∀ e∈m,BE e) (hm:okM m=true) (k:Bs) (x:En) (hg:getM m k=some x):G0 34 [.sl .no 8 (ens m),.str k] []=some (.tup [.sl .no 8 (ens (m.take (plc m k)++m.drop (plc m k+1))),.bool true],[]):=by
 have a:=k36 m hl hB k;unfold fndI at a;rw[if_pos hm,hg] at a;simp only[] at a;have h2:=((okM_iff m).1 hm).2;have hlt:=plc_lt h2 hg;generalize plc m k=i at a hlt;have h0:(0:Int)<=(i:Int):=by omega
 have hn:¬ (i:Int) < 0:=by omega
 have h1:(i:Int)<=(m.length:Int):=by omega
 have h3:((i+1:Nat):Int)<=(m.length:Int):=by omega
 have h4:(0:Int)<=((i+1:Nat):Int):=by omega
 have hw:IntKind.i64.wrap ((i:Int)+1)=((i+1:Nat):Int):=by rw[w64 (by omega) (by omega)];rfl
 have p1:=appX (md:=.full) (o:=.no) (by decide) [] (m.take i) (by simp;omega);have p2:=appX (md:=.own) (o:=.no) (by decide) ([]++m.take i) (m.drop (i+1)) (by simp;omega);rw[ens_nil,nil_append] at p1;rw[nil_append] at p2;refine contract F34 rfl rfl rfl ?_;simp only[F34,go_sem,a,hn,ens_len,h0,h1,h3,h4,hw,Int.toNat_natCast,ens_take,ens_drop,p1,p2]
def Sg (N:List AV) (j n:Nat) (cells:List AV):List (List AV):=N :: [.ss (j+2) 0 n 9] :: (List.replicate j dead++[cells])
theorem Sg_len (N:List AV) (j n:Nat) (cells:List AV):(Sg N j n cells).length=j+3:=by simp [Sg]
theorem Sg_o (N:List AV) (j n:Nat) (cells:List AV):(Sg N j n cells)[j+2]?=some cells:=by
 show (List.replicate j dead++[cells])[j]?=_;rw[rD]
theorem flat_lt {n:Nat} {l:List AV} (h:l.all flatB=true):l.all (refLt n)=true:=by
 rw[all_eq_true] at h ⊢;intro x hx
 have:=h x hx
 cases x<;>simp_all [flatB,refLt]
theorem Sg_rf (l:List Int) (p j n:Nat) (cells:List AV) (h:cells.all flatB=true):refsOk false (Sg (num l p) j n cells).length (Sg (num l p) j n cells)=true:=by
 unfold refsOk;rw[take_length,Sg_len,Bool.false_or,all_eq_true];intro c hc;simp only[Sg,mem_cons,mem_append,mem_replicate] at hc;rcases hc with rfl | rfl | ⟨_,rfl⟩ | hc
 ·rfl
 ·simp [refLt]
 ·rfl
 ·rcases hc with rfl | hc
  ·exact flat_lt h
  ·cases hc
theorem put_next (N:List AV) (j:Nat) (m:List En) (hm:m.length=j+1) (e:En):((Sg N j (j+1) (cls9 m)).set (j+2) dead++[cls9 (e :: m)]).set 1 [.ss (Sg N j (j+1) (cls9 m)).length 0 (m.length+1) 9]=Sg N (j+1) (j+2) (cls9 (e :: m)):=by
 rw[Sg_len,hm];show N :: [.ss (j+3) 0 (j+2) 9] :: ((List.replicate j dead++[cls9 m]).set j dead++[cls9 (e :: m)])=_;rw[rS,rN];rfl
theorem isLb_zero {e:En} {m:List En} (h:Sr (e :: m)):isLb (m.map keyE) (keyE e) 0/\(m.map keyE)[0]?≠some (keyE e):=by
 have h1:=(pairwise_cons.1 h).1;refine⟨⟨by omega,fun i x hx=>?_⟩,fun q=>?_⟩
 ·rw[getElem?_map] at hx
  obtain⟨y,hy,rfl⟩:=Option.map_eq_some_iff.1 hx;rw[ltB_asym (h1 y (mem_of_getElem? hy))];simp
 ·rw[getElem?_map] at q
  obtain⟨y,hy,q⟩:=Option.map_eq_some_iff.1 q
  have:=h1 y (mem_of_getElem? hy)
  rw[q,ltB_irr] at this;cases this
def RD (sh:LL) (m:List En):Prop:=refsOk false sh.length sh=true/\((m=[]/\sh[1]?=some [.sl .full 9 []])\/∃ o cells,sh[1]?=some [.ss o 0 m.length 9]/\sh[o]?=some cells/\∀ (i:Nat) e,m[i]?=some e->(cells.drop (i*9)).take 9=rowK e)
def srT (q:Bs) (t:Bool) (m:List En):List Ht:=if phrF q=[] then [] else srF (phrF q) t 0 m
def srE (q:Bs):Int:=if phrF q=[] then 1 else 0
theorem s17 (m:List En) (hl:m.length<=1000) (hB:∀ e∈m,BE e) (hm:okM m=true) (q:Bs) (hq:q.length<=1000000) (t:Bool):G4 17 [.sl .no 8 (ens m),.str q,.bool t] []=some (.tup [.sl .no 3 (hts (srT q t m)),.int .i64 (srE q)],[]):=by
 unfold srT srE;by_cases h:phrF q=[]
 ·rw[if_pos h,if_pos h];exact up4 (k17n m (by omega) hB q hq t (.inr h)) rfl
 ·rw[if_neg h,if_neg h];exact up4 (k17 m (by omega) hB hm q hq t h) rfl
theorem s47 (m:List En) (hl:m.length<=1000) (hB:∀ e∈m,BE e) (hm:okM m=true) (q:Bs) (hq:q.length<=1000000) (t:Bool):G4 47 [.sl .no 8 (ens m),.str q,.bool t] []=some (.tup [.sl .no 3 (hts (srT q t m)),.int .i64 (srE q)],[]):=by
 unfold srT srE;by_cases h:phrF q=[]
 ·rw[if_pos h,if_pos h];exact up4 (k47n m (by omega) hB q hq t h) rfl
 ·rw[if_neg h,if_neg h];exact up4 (k47 m (by omega) hB hm q hq t h) rfl
theorem s19 {sh:LL} {m:List En} (hR:RD sh m) (hl:m.length<=1000) (hB:∀ e∈m,BE e) (q:Bs) (hq:q.length<=1000000) (t:Bool):G4 19 [.ptr 1 0,.str q,.bool t] sh=some (.tup [.sl .no 3 (hts (srT q t m)),.int .i64 (srE q)],sh):=by
 obtain⟨hr,h⟩:=hR;unfold srT srE;by_cases hp:phrF q=[]
 ·rw[if_pos hp,if_pos hp];exact k19y sh hr 1 q hq t hp
 ·rw[if_neg hp,if_neg hp]
  rcases h with ⟨rfl,h1⟩ | ⟨o,cells,h1,h2,h3⟩
  ·exact k19z sh hr 1 h1 q hq t hp
  ·exact k19 sh hr m (by omega) hB 1 o cells h1 h2 h3 q hq t hp
theorem srT_len (q:Bs) (t:Bool) (m:List En) (hl:m.length<=1000) (hB:∀ e∈m,BE e):(srT q t m).length<=1000000000:=by
 unfold srT;by_cases h:phrF q=[]
 ·rw[if_pos h];simp
 ·rw[if_neg h]
  have:=srF_len (phrF q) (by have:(phrF q).length≠0:=fun z=>h (eq_nil_of_length_eq_zero z);omega) t m 0 hB
  omega
theorem s48 (q:Bs) (t:Bool) (m:List En) (hl:m.length<=1000) (hB:∀ e∈m,BE e):G4 48 [.sl .no 3 (hts (srT q t m)),.sl .no 3 (hts (srT q t m))] []=some (.bool true,[]):=up4 (k48 _ (srT_len q t m hl hB)) rfl
theorem del_eq {m:List En} (h:Mem m) {k:Bs} {x:En} (hg:getM m k=some x):m.take (plc m k)++m.drop (plc m k+1)=delM m k:=by
 have hs:=split_some h.2 hg;unfold delM plc;generalize bel k m=B at *;generalize abv k m=A at *;subst hs;simp
theorem getM_del {m:List En} (h:Mem m) (k:Bs):getM (delM m k) k=none:=by
 cases hg:getM (delM m k) k with
 | none=>rfl
 | some x =>
  obtain⟨h1,h2⟩:=getM_some hg;exact absurd h2 (mem_del.1 h1).2
theorem l13k (l:List Int) (p:Nat) (M:List Int) (s:Bs) (t:Bool) (dl:Int) (a:List En) (ha:MG a) (hl:a.length<=10):∀ (k j:Nat),j+1+k=a.length ->
  execX G4 L13_0 (ST [(1,.sl .no 1 (ints M)),(2,.str s),(3,.bool t),(4,.int .i64 dl),(12,.sl .no 8 (ens a)),(13,.ptr 1 0),(31,.bool false),(40,.int .i64 a.length),(41,.int .i64 ((j+1:Nat):Int))] [] (Sg (num l p) j (j+1) (cls9 (a.drop k))))=some (.ex 0,ST [(1,.sl .no 1 (ints M)),(2,.str s),(3,.bool t),(4,.int .i64 dl),(12,.sl .no 8 (ens a)),(13,.ptr 1 0),(31,.bool false),(40,.int .i64 a.length),(41,.int .i64 a.length),(42,.bool false)] [] (Sg (num l p) (a.length - 1) a.length (cls9 a)))
 | 0,j,h=>by
  have e1:j+1=a.length:=by omega
  have e2:j=a.length - 1:=by omega
  rw[e1,drop_zero,e2];rw[Y_loop (L:=L13_0) rfl];simp only[go_sem,Int.lt_irrefl]
 | k+1,j,h=>by
  have h4:((j+1:Nat):Int) < (a.length:Int):=by omega
  have hk:k < a.length:=by omega
  have hd:a.drop k=a[k] :: a.drop (k+1):=drop_eq_getElem_cons hk;have hr:=ens_at (getElem?_eq_getElem hk);have hb:=ha.be _ (getElem_mem hk);have hv:=(vE_iff a[k]).2 (ha.1.1 _ (getElem_mem hk));have hlen:(a.drop (k+1)).length=j+1:=by rw[length_drop];omega
  have hsr:Sr (a[k] :: a.drop (k+1)):=by rw[<- hd];exact ha.1.2.sublist (drop_sublist _ _)
  obtain⟨z1,z2⟩:=isLb_zero hsr;have b:=k44 (Sg (num l p) j (j+1) (cls9 (a.drop (k+1)))) (Sg_rf l p j (j+1) _ (cls9_flat _)) (j+2) (by omega) (a.drop (k+1)) (by omega) (by omega) (by rw[hlen];rfl) (Sg_o _ _ _ _) a[k] hb hv z1 z2;rw[put_next _ j _ hlen,<- hd] at b;have ih:=l13k l p M s t dl a ha hl k (j+1) (by omega);have w1:IntKind.i64.wrap ((a.length:Int) - 1)=((a.length - 1:Nat):Int):=by rw[w64 (by omega) (by omega)];omega
  have w2:IntKind.i64.wrap (((a.length - 1:Nat):Int) - ((j+1:Nat):Int))=(k:Int):=by rw[w64 (by omega) (by omega)];omega
  have w3:IntKind.i64.wrap (((j+1:Nat):Int)+1)=((j+1+1:Nat):Int):=by rw[w64 (by omega) (by omega)];rfl
  have h0:(0:Int)<=(k:Int):=by omega
  simp only[rowE] at b;rw[Y_loop (L:=L13_0) rfl];simp only[go_sem,h4,ens_len,w1,w2,w3,h0,hr,b];exact ih
theorem l13z (l:List Int) (p:Nat) (M:List Int) (s:Bs) (t:Bool) (dl:Int) (a:List En) (ha:MG a) (hl:a.length<=10) (hne:1<=a.length) :
  execX G4 L13_0 (ST [(1,.sl .no 1 (ints M)),(2,.str s),(3,.bool t),(4,.int .i64 dl),(12,.sl .no 8 (ens a)),(13,.ptr 1 0),(31,.bool false),(40,.int .i64 a.length),(41,.int .i64 0)] [] [num l p,[.sl .full 9 []]])=some (.ex 0,ST [(1,.sl .no 1 (ints M)),(2,.str s),(3,.bool t),(4,.int .i64 dl),(12,.sl .no 8 (ens a)),(13,.ptr 1 0),(31,.bool false),(40,.int .i64 a.length),(41,.int .i64 a.length),(42,.bool false)] [] (Sg (num l p) (a.length - 1) a.length (cls9 a))):=by
 obtain⟨k,hk⟩:∃ k,a.length=k+1:=⟨a.length - 1,by omega⟩
 have hk':k < a.length:=by omega
 have h4:(0:Int) < (a.length:Int):=by omega
 have hd:a.drop k=[a[k]]:=by rw[drop_eq_getElem_cons hk',drop_eq_nil_of_le (by omega)]
 have hr:=ens_at (getElem?_eq_getElem hk');have hb:=ha.be _ (getElem_mem hk');have hv:=(vE_iff a[k]).2 (ha.1.1 _ (getElem_mem hk'));have b:=k44z (num l p) rfl a[k] hb hv;have ih:=l13k l p M s t dl a ha hl k 0 (by omega);rw[hd] at ih;have w1:IntKind.i64.wrap ((a.length:Int) - 1)=(k:Int):=by rw[w64 (by omega) (by omega)];omega
 have w2:IntKind.i64.wrap ((k:Int) - 0)=(k:Int):=by rw[w64 (by omega) (by omega)];omega
 have w3:IntKind.i64.wrap ((0:Int)+1)=((0+1:Nat):Int):=by rw[w64 (by omega) (by omega)];rfl
 have h0:(0:Int)<=(k:Int):=by omega
 have e1:Sg (num l p) 0 (0+1) (cls9 [a[k]])=[num l p,[.ss 2 0 1 9],cls9 [a[k]]]:=rfl;have ec:((0+1:Nat):Int)=1:=rfl;rw[e1,ec] at ih;simp only[rowE] at b;rw[Y_loop (L:=L13_0) rfl];simp only[go_sem,h4,ens_len,w1,w2,w3,h0,hr,b];exact ih
end Go.Av
namespace Go.Av
open Go.Nt
def rd3:Bs:=[114,101,100]
theorem l13d (s ph:Bs) (hs:s.length<=1000000) (hp:ph.length<=1000000) (t:Bool) (n0 n1:Int) (a:List En) (ha:MG a) (hl:a.length<=10) (sh:LL) (hR:RD sh a) :
  execX G4 L13_1 (ST [(3,.bool t),(12,.sl .no 8 (ens a)),(13,.ptr 1 0),(31,.bool false),(40,.int .i64 n0),(41,.int .i64 n1),(42,.bool false),(63,.bool true),(86,.bool false),(90,.agg [.str s,.str ph,.str rd3]),(91,.int .i64 0)] [] sh)=some (.ex 2,ST [(3,.bool t),(12,.sl .no 8 (ens a)),(13,.ptr 1 0),(31,.bool false),(40,.int .i64 n0),(41,.int .i64 n1),(42,.bool false),(63,.bool true),(86,.bool false),(90,.agg [.str s,.str ph,.str rd3]),(91,.int .i64 3),(92,.bool false)] [] sh):=by
 have ho:=ha.ok (by omega);have hr:rd3.length<=1000000:=by decide
 have a1:=s17 a (by omega) ha.be ho s hs t;have a2:=s17 a (by omega) ha.be ho ph hp t;have a3:=s17 a (by omega) ha.be ho rd3 hr t;have b1:=s47 a (by omega) ha.be ho s hs t;have b2:=s47 a (by omega) ha.be ho ph hp t;have b3:=s47 a (by omega) ha.be ho rd3 hr t;have c1:=s19 hR (by omega) ha.be s hs t;have c2:=s19 hR (by omega) ha.be ph hp t;have c3:=s19 hR (by omega) ha.be rd3 hr t;have d1:=s48 s t a (by omega) ha.be;have d2:=s48 ph t a (by omega) ha.be;have d3:=s48 rd3 t a (by omega) ha.be;rw[Y_loop (L:=L13_1) rfl];simp only[go_sem,a1,b1,c1,d1,ne_eq,not_true_eq_false,decide_false,Bool.not_true];rw[Y_loop (L:=L13_1) rfl];simp only[go_sem,a2,b2,c2,d2,ne_eq,not_true_eq_false,decide_false,Bool.not_true];rw[Y_loop (L:=L13_1) rfl];simp only[go_sem,a3,b3,c3,d3,ne_eq,not_true_eq_false,decide_false,Bool.not_true];rw[Y_loop (L:=L13_1) rfl];simp only[go_sem]
theorem l13n (s ph:Bs) (hs:s.length<=1000000) (hp:ph.length<=1000000) (t:Bool) (dl:Int) (n0 n1:Int) (a:List En) (ha:MG a) (hl:a.length<=10) (sh:LL) (hR:RD sh a) :
  execX G4 L13_1 (ST [(3,.bool t),(4,.int .i64 dl),(12,.sl .no 8 (ens a)),(13,.ptr 1 0),(31,.bool false),(40,.int .i64 n0),(41,.int .i64 n1),(42,.bool false),(63,.bool false),(90,.agg [.str s,.str ph,.str rd3]),(91,.int .i64 0)] [] sh)=some (.ex 2,ST [(3,.bool t),(4,.int .i64 dl),(12,.sl .no 8 (ens a)),(13,.ptr 1 0),(31,.bool false),(40,.int .i64 n0),(41,.int .i64 n1),(42,.bool false),(63,.bool false),(90,.agg [.str s,.str ph,.str rd3]),(91,.int .i64 3),(92,.bool false)] [] sh):=by
 have ho:=ha.ok (by omega);have hr:rd3.length<=1000000:=by decide
 have a1:=s17 a (by omega) ha.be ho s hs t;have a2:=s17 a (by omega) ha.be ho ph hp t;have a3:=s17 a (by omega) ha.be ho rd3 hr t;have b1:=s47 a (by omega) ha.be ho s hs t;have b2:=s47 a (by omega) ha.be ho ph hp t;have b3:=s47 a (by omega) ha.be ho rd3 hr t;have c1:=s19 hR (by omega) ha.be s hs t;have c2:=s19 hR (by omega) ha.be ph hp t;have c3:=s19 hR (by omega) ha.be rd3 hr t;have d1:=s48 s t a (by omega) ha.be;have d2:=s48 ph t a (by omega) ha.be;have d3:=s48 rd3 t a (by omega) ha.be;rw[Y_loop (L:=L13_1) rfl];simp only[go_sem,a1,b1,c1,d1,ne_eq,not_true_eq_false,decide_false,Bool.not_true];rw[Y_loop (L:=L13_1) rfl];simp only[go_sem,a2,b2,c2,d2,ne_eq,not_true_eq_false,decide_false,Bool.not_true];rw[Y_loop (L:=L13_1) rfl];simp only[go_sem,a3,b3,c3,d3,ne_eq,not_true_eq_false,decide_false,Bool.not_true];rw[Y_loop (L:=L13_1) rfl];simp only[go_sem]
theorem g14:G4 14 [] []=some (.bool true,[]):=up4 c14c rfl
theorem g46 (l:List Int):G4 46 [.sl .no 1 (ints l)] []=some (.str (lineF l 0 3).1,[]):=up4 (k46 l) rfl
theorem g18 (P:LL):G4 18 [] P=some (.ptr P.length 0,P++[[.sl .full 9 []]]):=up4 (k18 P) rfl
theorem g16 (a b:Int) (hb:1<=b) (hb2:b<=1000000):G4 16 [.int .i64 a,.int .i64 b] []=some (.int .i64 (a % b),[]):=up4 (f16 a b hb hb2) rfl
theorem g26 (e:En) (h:BE e):G4 26 [.agg (rowE e)] []=some (.str (keyE e),[]):=up0 (k26 e h) rfl rfl
theorem k13 (l M:List Int) (s:Bs) (t:Bool) (dl:Int):G4 13 [.sl .no 1 (ints l),.sl .no 1 (ints M),.str s,.bool t,.int .i64 dl] []=some (.bool true,[]):=by
 have h14:=g14;refine contract F13 rfl rfl rfl ?_;by_cases g1:(200:Int) < (l.length:Int)
 ·simp only[F13,go_sem,ints_length,g1,h14]
 by_cases g2:(100:Int) < (s.length:Int)
 ·simp only[F13,go_sem,ints_length,g1,g2,h14]
 obtain⟨a,n',hm,hl,_,a0⟩:=k15 l 0 (by omega) 5 (by decide);have c5:((5:Nat):Int)=5:=rfl;have hn:num l 0=[.sl .no 1 (ints l),.int .i64 0]:=rfl;rw[c5,hn] at a0;have a0:=up4 a0 rfl;have b2:=g18 [num l n'];simp only[length_cons,length_nil,cons_append,nil_append] at b2;have hp:=g46 M;have hpl:=lineF_len M;have hrd:([114,101,100]:Bs)=rd3:=rfl;rcases Nat.eq_zero_or_pos a.length with z | z
 ·have z':a=[]:=eq_nil_of_length_eq_zero z
  subst z';have x:=l13n s (lineF M 0 3).1 (by omega) hpl t dl 0 0 [] hm (by decide) [num l n',[.sl .full 9 []]] ⟨rfl,.inl ⟨rfl,rfl⟩⟩;rw[ens_nil] at a0 x;simp only[F13,go_sem,ints_length,g1,g2,a0,b2,length_nil,hp];rw[Y_loop (L:=L13_0) rfl];simp only[go_sem,length_nil,Int.lt_irrefl,decide_false,hp,hrd,x,h14,num_ok]
 ·have x0:=l13z l n' M s t dl a hm (by omega) z
  have h0:(0:Int) < (a.length:Int):=by omega
  have q1:=g16 dl a.length (by omega) (by omega);simp only[F13,go_sem,ints_length,g1,g2,a0,b2,ens_len,x0,h0,hp];have hcl:∀ (m:List En) (r:List AV) (i:Nat) e,m[i]?=some e->((cls9 m++r).drop (i*9)).take 9=rowK e:=fun m r i e=>cls9_at m r i e
  have hR0:RD (Sg (num l n') (a.length - 1) a.length (cls9 a)) a:=⟨Sg_rf _ _ _ _ _ (cls9_flat a),.inr ⟨a.length - 1+2,cls9 a,rfl,Sg_o _ _ _ _,fun i e h=>by have:=cls9_at a [] i e h;rwa [append_nil] at this⟩⟩
  split
  case isFalse hd =>
   have x:=l13n s (lineF M 0 3).1 (by omega) hpl t dl a.length a.length a hm (by omega) _ hR0;simp only[go_sem,hd,decide_false,hrd,x,h14]
  case isTrue hd =>
   have hc1:=Int.emod_nonneg dl (show (a.length:Int)≠0 by omega);have hc2:=Int.emod_lt_of_pos dl (show (0:Int) < (a.length:Int) by omega);generalize dl % (a.length:Int)=d at q1 hc1 hc2;have hlt:d.toNat < a.length:=by omega
   have he:=getElem?_eq_getElem hlt;have hmem:=getElem_mem hlt;generalize a[d.toNat]=e at he hmem;have hr:=ens_at he;have r26:=g26 e (hm.be e hmem);have hg:=getM_mem hm.1.2 hmem;generalize keyE e=k at r26 hg;have ho:=hm.ok (by omega);have r34:=up0 (k34 a (by omega) hm.be ho k e hg) rfl rfl;have dl1:=del_eq hm.1 hg;have hi:=plc_lt hm.1 hg;have hk:(a.map keyE)[plc a k]?=some k:=by
    rw[getElem?_map,at_some hm.1 hg];show some (keyE e)=some k;rw[(getM_some hg).2]
   have hdl:(delM a k).length=a.length - 1:=by rw[<- dl1];simp;omega
   have hfl:(cls9 (delM a k)++ze9).all flatB=true:=by rw[all_append,cls9_flat];rfl
   have hs:((Sg (num l n') (a.length - 1) a.length (cls9 a)).set (a.length - 1+2) (cls9 (a.take (plc a k)++a.drop (plc a k+1))++ze9)).set 1 [.ss (a.length - 1+2) 0 (a.length - 1) 9]=Sg (num l n') (a.length - 1) (a.length - 1) (cls9 (delM a k)++ze9):=by
    rw[dl1];show num l n' :: [.ss (a.length - 1+2) 0 (a.length - 1) 9] :: ((List.replicate (a.length - 1) dead++[cls9 a]).set (a.length - 1) _)=_;rw[rS];rfl
   have rf1:=Sg_rf l n' (a.length - 1) (a.length - 1) (cls9 (delM a k)++ze9) hfl;have r45:=k45 (Sg (num l n') (a.length - 1) a.length (cls9 a)) (Sg_rf _ _ _ _ _ (cls9_flat a)) (a.length - 1+2) (by omega) a (by omega) rfl (Sg_o _ _ _ _) k (plc a k) hi (lb_key hm.1 k) hk _ hs (by rw[Sg_len] at rf1 ⊢;exact rf1);have hm':=hm.del k;have e1:(Sg (num l n') (a.length - 1) (a.length - 1) (cls9 (delM a k)++ze9))[1]?=some [.ss (a.length - 1+2) 0 (delM a k).length 9]:=by rw[hdl];rfl
   have r45n:=k45n (Sg (num l n') (a.length - 1) (a.length - 1) (cls9 (delM a k)++ze9)) rf1 (a.length - 1+2) (delM a k) (by omega) _ e1 (Sg_o _ _ _ _) (hcl _ _) k (plc (delM a k) k) (lb_key hm'.1 k) (fun q=>by
    rw[getElem?_map] at q;obtain⟨y,hy,q⟩:=Option.map_eq_some_iff.1 q
    exact at_none hm'.1 (getM_del hm.1 k) y hy q)
   have x:=l13d s (lineF M 0 3).1 (by omega) hpl t a.length a.length (delM a k) hm' (by omega) _ ⟨rf1,.inr ⟨_,_,e1,Sg_o _ _ _ _,hcl _ _⟩⟩;rw[dl1] at r34;simp only[rowE] at r26;simp only[go_sem,hd,decide_true,q1,hc1,hc2,ens_len,hr,r26,r34,r45,r45n,Bool.not_true,Bool.not_false,hp,hrd,x,h14]
end Go.Av
