/- distance.Distance: the row that is filled from the front. No conditions. r11.table: rows in a list of rows, filled from the back. No conditions. r11.table's rows, r11.Distance, percentages. No conditions. The reference's surplus. No conditions. Distances and percentages. No conditions. The tokens of a fragment: the reference's and the program's; hits. No conditions. Made lists of valid fragments. No conditions. repeat.Similar: the most similar earlier fragment, or the first error. No conditions. -/
import Derived.Test.YtgbjlnijjonidaaDoorG1XF
import Derived.Test.YtgbjlnijjonidaaDoorG1XE
import Derived.Test.YtgbjlnijjonidaaDoorG1XA
import Derived.Test.YtgbjlnijjonidaaDoorG1XB
open List
set_option linter.unusedSimpArgs false
set_option linter.unusedVariables false
set_option linter.unusedSectionVars false
set_option maxRecDepth 100000
set_option maxHeartbeats 16000000
namespace Go.Av
open Go.Nt
theorem EV:∀ g:List Int,bP (icl g)=true
 | []=>rfl
 | [a]=>rfl
 | a :: b :: g=>rfl
theorem I6 {l:List Int} {i:Nat} {x:Int} (h:l[i]?=some x):(icl l)[i]?=some (.int .i64 x):=by
 unfold icl;rw[getElem?_map,h];rfl
theorem I4 (l:List Int) (i:Nat) (x:Int):(icl l).set i (.int .i64 x)=icl (l.set i x):=by
 unfold icl;rw[map_set]
theorem rO {c:List AV} {i:Nat} (h:i < c.length) (x:AV):dW i [x] c=some (c.set i x):=by
 unfold dW;rw[if_pos (by simp;omega)]
 congr 1
 rw[set_eq_take_append_cons_drop,if_pos h];simp
theorem yR {sh:LL} {q n i:Nat} {R:List Int} {x:Int} (hq:sh[q]?=some (icl R)) (hl:R.length=n) (h:R[i]?=some x) :
  ∃ Q,iaK 1 (.ss q 0 n 1) (.int .i64 (i:Int))=some Q/\(∀ m,ldA .sh false 1 m sh Q=some (.int .i64 x))/\∀ l m y,stX .sh 1 l m sh Q (some [.int .i64 y])=some (ST l m (sh.set q (icl (R.set i y)))):=by
 have hi:i < R.length:=by
  by_cases z:i < R.length
  ·exact z
  ·rw[getElem?_eq_none (by omega)] at h;cases h
 refine⟨.ptr q i,?_,fun m=>?_,fun l m y=>?_⟩
 ·rw[kM,if_pos (by omega),Int.toNat_natCast];simp
 ·rw[lV,hq]
  simp only[Option.bind_some,ldC,Bool.false_eq_true,if_false,I6 h];rfl
 ·rw[oJ,hq]
  simp only[Option.bind_some];rw[if_pos (EV _),rO (by rw[lZ];exact hi),I4,Option.map_some]
theorem mW {n i:Nat} {R:List Int} {x:Int} (hl:R.length=n) (h:R[i]?=some x) :
  ∃ Q,iaK 1 (.ss 0 0 n 1) (.int .i64 (i:Int))=some Q/\(∀ m,ldA .sh false 1 m [icl R] Q=some (.int .i64 x))/\∀ l m y,stX .sh 1 l m [icl R] Q (some [.int .i64 y])=some (ST l m [icl (R.set i y)]):=yR rfl hl h
theorem kW (x:AV):∀ n:Nat,aT [x] n=List.replicate n x
 | 0=>rfl
 | n+1=>by
  rw[aT,kW x n,replicate_succ];rfl
theorem nC (a b:List Tk) (j:Nat) (ha:a.length<=100000) (hb:b.length<=100000):0<=fwd a b j/\fwd a b j<=800000:=by
 have h:=pZ _ a (b.take j) (Nat.le_refl _)
 have:(b.take j).length<=b.length:=by rw[length_take];omega
 unfold fwd;omega
theorem K3 {C:AV} (a b:List Tk) (hb:b.length<=100000) (hC:C=.ss 0 0 (b.length+1) 1):∀ (d j:Nat),j+d=b.length ->
  aD G0 AW (ST [(0,.sl .no 3 (tks a)),(1,.sl .no 3 (tks b)),(5,C),(20,.sl .no 3 (tks b)),(21,.int .i64 b.length),(22,.int .i64 j)] [] [icl (iE (fwd [] b) (fun _=>0) (j+1) b.length)])=some (.ex 0,ST [(0,.sl .no 3 (tks a)),(1,.sl .no 3 (tks b)),(5,C),(20,.sl .no 3 (tks b)),(21,.int .i64 b.length),(22,.int .i64 b.length),(23,.bool false)] [] [icl (iE (fwd [] b) (fun _=>0) (b.length+1) b.length)])
 | 0,j,h=>by
  have:j=b.length:=by omega
  subst this;have hCs:∀ k,aQ k C=C:=fun _=>by rw[hC];rfl
  rw[aA (L:=AW) rfl];simp only[go_sem,hCs,Int.lt_irrefl]
 | d+1,j,h=>by
  have hi:j < b.length:=by omega
  have h0:(0:Int)<=(j:Int):=by omega
  have h1:(j:Int) < (b.length:Int):=by omega
  have hw:IntKind.i64.wrap ((j:Int)+1)=((j+1:Nat):Int):=by rw[w64 (by omega) (by omega)];rfl
  obtain⟨u,hg⟩:∃ u,b[j]?=some u:=⟨_,getElem?_eq_getElem hi⟩
  have hr:=bZ hg;have g:=t57 u;have ih:=K3 a b hb hC d (j+1) (by omega);have hbd:=nC [] b j (by simp) hb;have hal:=iL u;have hs:IntKind.i64.wrap (fwd [] b j+(aln u:Int))=fwd [] b (j+1):=by rw[NN hg,w64 (by omega) (by omega)]
  have hCs:∀ k,aQ k C=C:=fun _=>by rw[hC];rfl
  have hCd:aH C=C:=by rw[hC];rfl
  have e1:=eM (fwd [] b) (fun _=>0) (j+1) (m:=b.length) (i:=j) (by omega);rw[if_pos (by omega)] at e1;have e2:=eM (fwd [] b) (fun _=>0) (j+1) (m:=b.length) (i:=j+1) (by omega);obtain⟨Q1,b1,b2,b3⟩:=mW (dK _ _ _ _) e1;obtain⟨Q2,c1,c2,c3⟩:=mW (dK _ _ _ _) e2;rw[<- hC] at b1 c1;have c3:=fun l m=>c3 l m (fwd [] b (j+1))
  rw[lJ _ _ (show j+1<=b.length by omega)] at c3;obtain⟨k,s,n⟩:=u;simp only[tkR] at g hr;rw[<- ih]
  conv=>lhs;rw[aA (L:=AW) rfl]
  simp only[go_sem,aG,h0,h1,hr,hw,g,hs,hCs,hCd,b1,b2,c1,c3]
theorem K2 {C:AV} (a b p:List Tk) (t:Tk) (i:Nat) (hp:p.length<=100000 - 1) (hb:b.length<=100000) (ht:t.2.1.length<=1000000) (hbt:∀ x∈b,x.2.1.length<=1000000) (hC:C=.ss 0 0 (b.length+1) 1):∀ (d j:Nat),j+d=b.length ->
  aD G0 AU (ST [(0,.sl .no 3 (tks a)),(1,.sl .no 3 (tks b)),(5,C),(9,.loc 9 0),(10,.int .i64 (fwd p b j)),(20,.sl .no 3 (tks b)),(21,.int .i64 b.length),(22,.int .i64 b.length),(23,.bool false),(39,.sl .no 3 (tks a)),(40,.int .i64 a.length),(41,.int .i64 i),(42,.bool true),(55,.sl .no 3 (tks b)),(56,.int .i64 b.length),(57,.int .i64 j)] [(9,some (tkR t))] [icl (iE (fwd (p++[t]) b) (fwd p b) (j+1) b.length)])
  =some (.ex 4,ST [(0,.sl .no 3 (tks a)),(1,.sl .no 3 (tks b)),(5,C),(9,.loc 9 0),(10,.int .i64 (fwd p b b.length)),(20,.sl .no 3 (tks b)),(21,.int .i64 b.length),(22,.int .i64 b.length),(23,.bool false),(39,.sl .no 3 (tks a)),(40,.int .i64 a.length),(41,.int .i64 i),(42,.bool true),(55,.sl .no 3 (tks b)),(56,.int .i64 b.length),(57,.int .i64 b.length),(58,.bool false)] [(9,some (tkR t))] [icl (iE (fwd (p++[t]) b) (fwd p b) (b.length+1) b.length)])
 | 0,j,h=>by
  have:j=b.length:=by omega
  subst this;have hCs:∀ k,aQ k C=C:=fun _=>by rw[hC];rfl
  rw[aA (L:=AU) rfl];simp only[go_sem,hCs,Int.lt_irrefl]
 | d+1,j,h=>by
  have hi:j < b.length:=by omega
  have h0:(0:Int)<=(j:Int):=by omega
  have h1:(j:Int) < (b.length:Int):=by omega
  have hw:IntKind.i64.wrap ((j:Int)+1)=((j+1:Nat):Int):=by rw[w64 (by omega) (by omega)];rfl
  obtain⟨u,hg⟩:∃ u,b[j]?=some u:=⟨_,getElem?_eq_getElem hi⟩
  have hu:=hbt u (mem_of_getElem? hg);have hr:=bZ hg;have g:=t57 u;have gt:=t57 t;have gc:=t58 t u ht hu;have ih:=K2 a b p t i hp hb ht hbt hC d (j+1) (by omega);have hA:=nC p b (j+1) (by omega) hb;have hB:=nC (p++[t]) b j (by simp;omega) hb;have hD:=nC p b j (by omega) hb;have hal:=iL u;have hat:=iL t;have hs1:IntKind.i64.wrap (fwd p b (j+1)+(aln t:Int))=fwd p b (j+1)+(aln t:Int):=w64 (by omega) (by omega);have hs2:IntKind.i64.wrap (fwd (p++[t]) b j+(aln u:Int))=fwd (p++[t]) b j+(aln u:Int):=w64 (by omega) (by omega);have hCs:∀ k,aQ k C=C:=fun _=>by rw[hC];rfl
  have hCd:aH C=C:=by rw[hC];rfl
  have e1:=eM (fwd (p++[t]) b) (fwd p b) (j+1) (m:=b.length) (i:=j) (by omega);rw[if_pos (by omega)] at e1;have e2:=eM (fwd (p++[t]) b) (fwd p b) (j+1) (m:=b.length) (i:=j+1) (by omega);rw[if_neg (by omega)] at e2;obtain⟨Q1,b1,b2,b3⟩:=mW (dK _ _ _ _) e1;obtain⟨Q2,c1,c2,c3⟩:=mW (dK _ _ _ _) e2;rw[<- hC] at b1 c1;have c3:=fun l m=>c3 l m (fwd (p++[t]) b (j+1))
  rw[lJ _ _ (show j+1<=b.length by omega)] at c3;have hss:=NL p (t:=t) hg;rw[<- ih]
  conv=>lhs;rw[aA (L:=AU) rfl]
  cases hcs:cst t u with
  | none =>
   rw[hcs] at hss gc;simp only at hss;obtain⟨k,s,n⟩:=u;obtain⟨k',s',n'⟩:=t;simp only[tkR,fK] at g gt gc hr ⊢;simp only[go_sem,aG,h0,h1,hr,hw,g,gt,gc,hs1,hs2,hCs,hCd,b1,b2,c1,c2,hss.symm,c3]
  | some v =>
   rw[hcs] at hss gc;simp only at hss;have hv:=FG hcs;have hs3:IntKind.i64.wrap (fwd p b j+(v:Int))=fwd p b j+(v:Int):=w64 (by omega) (by omega);obtain⟨k,s,n⟩:=u;obtain⟨k',s',n'⟩:=t;simp only[tkR,fK] at g gt gc hr ⊢;simp only[go_sem,aG,h0,h1,hr,hw,g,gt,gc,hs1,hs2,hs3,hCs,hCd,b1,b2,c1,c2,hss.symm,c3]
theorem K1 {C:AV} (a b:List Tk) (ha:a.length<=5000) (hb:b.length<=5000) (hat:∀ x∈a,x.2.1.length<=1000000) (hbt:∀ x∈b,x.2.1.length<=1000000) (hC:C=.ss 0 0 (b.length+1) 1):∀ (d i:Nat),i+d=a.length ->
  aD G0 AT (ST [(0,.sl .no 3 (tks a)),(1,.sl .no 3 (tks b)),(5,C),(20,.sl .no 3 (tks b)),(21,.int .i64 b.length),(22,.int .i64 b.length),(23,.bool false),(39,.sl .no 3 (tks a)),(40,.int .i64 a.length),(41,.int .i64 i)] [] [icl (iE (fwd (a.take i) b) (fun _=>0) (b.length+1) b.length)])
  =some (.ex 2,ST [(0,.sl .no 3 (tks a)),(1,.sl .no 3 (tks b)),(5,C),(20,.sl .no 3 (tks b)),(21,.int .i64 b.length),(22,.int .i64 b.length),(23,.bool false),(39,.sl .no 3 (tks a)),(40,.int .i64 a.length),(41,.int .i64 a.length),(42,.bool false)] [] [icl (iE (fwd a b) (fun _=>0) (b.length+1) b.length)])
 | 0,i,h=>by
  have:i=a.length:=by omega
  subst this;have hCs:∀ k,aQ k C=C:=fun _=>by rw[hC];rfl
  rw[aA (L:=AT) rfl,take_length];simp only[go_sem,hCs,Int.lt_irrefl]
 | d+1,i,h=>by
  have hi:i < a.length:=by omega
  have h0:(0:Int)<=(i:Int):=by omega
  have h1:(i:Int) < (a.length:Int):=by omega
  have hw:=wI (i:=i) (by omega)
  obtain⟨t,hg⟩:∃ t,a[i]?=some t:=⟨_,getElem?_eq_getElem hi⟩
  have ht:=hat t (mem_of_getElem? hg);have hr:=bZ hg;have gt:=t57 t;have ih:=K1 a b ha hb hat hbt hC d (i+1) (by omega);have htk:a.take (i+1)=a.take i++[t]:=by rw[take_add_one,hg];rfl
  have hpl:(a.take i).length<=5000:=by rw[length_take];omega
  rw[htk] at ih;generalize a.take i=p at ih hpl;have hD:=nC p b 0 (by omega) (by omega);have hal:=iL t;have hs:IntKind.i64.wrap (fwd p b 0+(aln t:Int))=fwd (p++[t]) b 0:=by rw[NM,w64 (by omega) (by omega)]
  have hCs:∀ k,aQ k C=C:=fun _=>by rw[hC];rfl
  have hCd:aH C=C:=by rw[hC];rfl
  rw[mX (fwd p b) (fun _=>0) (fwd (p++[t]) b)];have e1:=eM (fwd (p++[t]) b) (fwd p b) 0 (m:=b.length) (i:=0) (by omega);rw[if_neg (by omega)] at e1;obtain⟨Q1,b1,b2,b3⟩:=mW (dK _ _ _ _) e1;have e0:((0:Nat):Int)=0:=rfl;rw[<- hC,e0] at b1;have b3:=fun l m=>b3 l m (fwd (p++[t]) b 0)
  rw[lJ _ _ (show 0<=b.length by omega)] at b3;have hin:=K2 a b p t i (by omega) (by omega) ht hbt hC b.length 0 (by omega);rw[e0,mX (fwd (p++[t]) b) (fwd p b) (fun _=>0),<- mX (fwd (p++[t]) b) (fun _=>0) (fun _=>0)] at hin;rw[<- ih]
  conv=>lhs;rw[aA (L:=AT) rfl]
  obtain⟨k,s,n⟩:=t;simp only[tkR] at gt hr hin;have z1:(0:Nat)+1=1:=rfl;rw[z1] at hin b3;simp only[go_sem,aG,h0,h1,hr,hw,gt,hs,hCs,hCd,b1,b2,b3,hin]
theorem t59 (a b:List Tk) (ha:a.length<=5000) (hb:b.length<=5000) (hat:∀ x∈a,x.2.1.length<=1000000) (hbt:∀ x∈b,x.2.1.length<=1000000):G0 59 [.sl .no 3 (tks a),.sl .no 3 (tks b)] []=some (.int .i64 (2*(iB a b:Int)),[]):=AZ (GL 59 ha hb hat hbt)
theorem t38 (a b:List Tk) (ha:a.length<=5000) (hb:b.length<=5000) (hat:∀ x∈a,x.2.1.length<=1000000) (hbt:∀ x∈b,x.2.1.length<=1000000) (hsu:iB a b<=1000000000):G0 38 [.sl .no 3 (tks a),.sl .no 3 (tks b)] []=some (.int .i64 (dst a b),[]):=by
 have x1:=K3 (C:=.ss 0 0 (b.length+1) 1) a b (by omega) rfl b.length 0 (by omega);have x2:=K1 (C:=.ss 0 0 (b.length+1) 1) a b ha hb hat hbt rfl a.length 0 (by omega);have e0:((0:Nat):Int)=0:=rfl;have z1:(0:Nat)+1=1:=rfl;rw[e0,take_zero] at x2;rw[e0,z1] at x1;have hw:IntKind.i64.wrap ((b.length:Int)+1)=((b.length+1:Nat):Int):=by rw[w64 (by omega) (by omega)];rfl
 have hz:iE (fwd [] b) (fun _=>0) 1 b.length=iE (fwd [] b) (fun _=>0) 0 b.length:=by
  rw[<- lJ _ _ (show 0<=b.length by omega),NO];apply ext_getElem?;intro i;rw[getElem?_set,dK];by_cases q:0=i
  ·subst q
   rw[if_pos rfl,if_pos (by omega),eM _ _ _ (by omega)];rfl
  ·rw[if_neg q]
 have hz2:List.replicate (b.length+1) (AV.int .i64 0)=icl (iE (fwd [] b) (fun _=>0) 1 b.length):=by
  rw[hz,<- BG];unfold icl;rw[map_replicate]
 have e2:=eM (fwd a b) (fun _=>0) (b.length+1) (m:=b.length) (i:=b.length) (by omega);rw[if_pos (by omega)] at e2;obtain⟨Q2,c1,c2,c3⟩:=mW (dK _ _ _ _) e2;have hfd:fwd a b b.length=(lev cst aln a b:Int):=by unfold fwd;rw[take_length]
 have hbd:=nC a b b.length (by omega) (by omega);have hs:IntKind.i64.wrap (fwd a b b.length+2*(iB a b:Int))=((dst a b:Nat):Int):=by
  rw[w64 (by omega) (by omega),hfd];unfold dst;omega
 have g:=t59 a b ha hb hat hbt;refine aB F38 rfl rfl rfl ?_;simp only[F38,go_sem,aG,hw];rw[if_pos (by omega),kW,hz2];simp only[go_sem,aG,x1,x2,c1,c2,g,hs]
end Go.Av
namespace Go.Av
open Go.Nt
def iR (n m i:Nat):List AV:=(List.range (n+1)).map fun r=>if i<=r then AV.ss (1+(n - r)) 0 (m+1) 1 else .sl .full 1 []
theorem iW (n m i:Nat):(iR n m i).length=n+1:=by simp [iR]
theorem k9 (m:Nat) {n r:Nat} (i:Nat) (h:r<=n):(iR n m i)[r]?=some (if i<=r then AV.ss (1+(n - r)) 0 (m+1) 1 else .sl .full 1 []):=by
 unfold iR;rw[getElem?_map,getElem?_range (by omega)];rfl
theorem CJ {n m i:Nat} (h:i<=n):(iR n m (i+1)).set i (.ss (1+(n - i)) 0 (m+1) 1)=iR n m i:=by
 apply ext_getElem?;intro r;rw[getElem?_set,iW];by_cases e:i=r
 ·subst e
  rw[if_pos rfl,if_pos (by omega),k9 m i h,if_pos (by omega)]
 ·rw[if_neg e]
  by_cases q:r<=n
  ·rw[k9 m _ q,k9 m _ q]
   by_cases z:i<=r
   ·rw[if_pos z,if_pos (by omega)]
   ·rw[if_neg z,if_neg (by omega)]
  ·rw[getElem?_eq_none (by rw[iW];omega),getElem?_eq_none (by rw[iW];omega)]
theorem A4 (n m:Nat):List.replicate (n+1) (AV.sl .full 1 [])=iR n m (n+1):=by
 apply ext_getElem?;intro r;by_cases q:r<=n
 ·rw[k9 m _ q,getElem?_replicate,if_pos (by omega),if_neg (by omega)]
 ·rw[getElem?_eq_none (by rw[length_replicate];omega),getElem?_eq_none (by rw[iW];omega)]
theorem J3 {c:List AV} (h:∀ x∈c,(∃ o n,x=.ss o 0 n 1)\/x=.sl .full 1 []):bP c=true:=by
 cases c with
 | nil=>rfl
 | cons a c =>
  rcases h a (by simp) with ⟨o,n,rfl⟩ | rfl<;>(cases c<;>rfl)
theorem CK (n m i:Nat):bP (iR n m i)=true:=J3 fun x hx=>by
 unfold iR at hx;obtain⟨r,_,rfl⟩:=mem_map.1 hx;by_cases q:i<=r
 ·rw[if_pos q];exact .inl ⟨_,_,rfl⟩
 ·rw[if_neg q];exact .inr rfl
def kG (a b:List Tk) (i:Nat):List (List AV):=(List.range (a.length+1 - i)).map fun q=>icl (iS (bwd a b (a.length - q)) 0 b.length)
theorem gW (a b:List Tk) (i:Nat):(kG a b i).length=a.length+1 - i:=by simp [kG]
theorem GH (a b:List Tk) {i q:Nat} (h:q < a.length+1 - i):(kG a b i)[q]?=some (icl (iS (bwd a b (a.length - q)) 0 b.length)):=by
 unfold kG;rw[getElem?_map,getElem?_range h];rfl
theorem LQ (a b:List Tk) {i:Nat} (h:i<=a.length):kG a b i=kG a b (i+1)++[icl (iS (bwd a b i) 0 b.length)]:=by
 unfold kG;rw[show a.length+1 - i=(a.length+1 - (i+1))+1 by omega,range_succ,map_append]
 congr 1
 show [icl (iS (bwd a b (a.length - (a.length+1 - (i+1)))) 0 b.length)]=_;rw[show a.length - (a.length+1 - (i+1))=i by omega]
theorem CI (a b:List Tk):kG a b (a.length+1)=[]:=by unfold kG;rw[Nat.sub_self];rfl
theorem qU (a b:List Tk) (i k:Nat) (ha:a.length<=100000) (hb:b.length<=100000):0<=bwd a b i k/\bwd a b i k<=800000:=by
 have h:=pZ _ (a.drop i) (b.drop k) (Nat.le_refl _);have h1:(a.drop i).length<=a.length:=by rw[length_drop];omega
 have h2:(b.drop k).length<=b.length:=by rw[length_drop];omega
 unfold bwd;omega
def tbS (a b:List Tk) (i k:Nat):List (List AV):=iR a.length b.length i :: (kG a b (i+1)++[icl (iS (bwd a b i) k b.length)])
theorem KI (a b:List Tk) {i:Nat} (h:i<=a.length):tbS a b i 0=iR a.length b.length i :: kG a b i:=by rw[LQ a b h];rfl
theorem CM (a b:List Tk) (i k:Nat) {q:Nat} (h1:i<=a.length) (hq:q=1+(a.length - i)):(tbS a b i k)[q]?=some (icl (iS (bwd a b i) k b.length)):=by
 subst hq;unfold tbS;rw[show 1+(a.length - i)=(a.length - i)+1 by omega,getElem?_cons_succ,getElem?_append_right (by rw[gW];omega),gW,show a.length - i - (a.length+1 - (i+1))=0 by omega];rfl
theorem GI (a b:List Tk) {i k:Nat} (h1:i<=a.length) (hk:k<=b.length):(tbS a b i (k+1)).set (1+(a.length - i)) (icl ((iS (bwd a b i) (k+1) b.length).set k (bwd a b i k)))=tbS a b i k:=by
 unfold tbS;rw[DG _ hk,show 1+(a.length - i)=(a.length - i)+1 by omega,set_cons_succ,set_append_right _ _ (by rw[gW];omega),gW,show a.length - i - (a.length+1 - (i+1))=0 by omega];rfl
theorem LR (a b:List Tk) (i k:Nat) {q:Nat} (h1:i < a.length) (hq:q=1+(a.length - (i+1))):(tbS a b i k)[q]?=some (icl (iS (bwd a b (i+1)) 0 b.length)):=by
 subst hq;unfold tbS;rw[show 1+(a.length - (i+1))=(a.length - (i+1))+1 by omega,getElem?_cons_succ,getElem?_append_left (by rw[gW];omega),GH a b (by omega),show a.length - (a.length - (i+1))=i+1 by omega]
theorem wL (a b:List Tk) (i k:Nat) {r:Nat} (h:i<=r) (hr:r<=a.length):∃ P,iaK 1 (.ss 0 0 (a.length+1) 1) (.int .i64 (r:Int))=some P/\∀ m,ldA .sh false 1 m (tbS a b i k) P=some (.ss (1+(a.length - r)) 0 (b.length+1) 1):=by
 refine⟨.ptr 0 r,?_,fun m=>?_⟩
 ·rw[kM,if_pos (by omega),Int.toNat_natCast];simp
 ·rw[lV]
  show (some (iR a.length b.length i)).bind _=_;simp only[Option.bind_some,ldC,Bool.false_eq_true,if_false,k9 b.length i hr,if_pos h];rfl
theorem K0 {C:AV} (a b:List Tk) (i:Nat) (hi:i<=a.length) (ha:a.length<=5000) (hb:b.length<=5000) (hat:∀ x∈a,x.2.1.length<=1000000) (hbt:∀ x∈b,x.2.1.length<=1000000) (hC:C=.ss 0 0 (a.length+1) 1):∀ (k:Nat),k<=b.length+1 ->
  aD G0 AP (ST [(0,.sl .no 3 (tks a)),(1,.sl .no 3 (tks b)),(5,C),(6,.int .i64 i),(7,.int .i64 ((k:Int) - 1)),(21,.bool true)] [] (tbS a b i k))
  =some (.ex 2,ST [(0,.sl .no 3 (tks a)),(1,.sl .no 3 (tks b)),(5,C),(6,.int .i64 i),(7,.int .i64 (-1)),(21,.bool true),(34,.bool false)] [] (tbS a b i 0))
 | 0,h=>by
  have hCs:∀ k,aQ k C=C:=fun _=>by rw[hC];rfl
  have e:((0:Nat):Int) - 1 = -1:=rfl;have e2:¬ (0:Int)<=-1:=by omega
  rw[aA (L:=AP) rfl,e];simp only[go_sem,hCs,e2]
 | k+1,h=>by
  have hkm:k<=b.length:=by omega
  have hk:((k+1:Nat):Int) - 1=(k:Int):=by omega
  have hg0:(0:Int)<=(k:Int):=by omega
  have hw1:IntKind.i64.wrap ((k:Int) - 1)=(k:Int) - 1:=w64 (by omega) (by omega);have hi0:(0:Int)<=(i:Int):=by omega
  have hwk:IntKind.i64.wrap ((k:Int)+1)=((k+1:Nat):Int):=by rw[w64 (by omega) (by omega)];rfl
  have hwi:IntKind.i64.wrap ((i:Int)+1)=((i+1:Nat):Int):=by rw[w64 (by omega) (by omega)];rfl
  have ih:=K0 a b i hi ha hb hat hbt hC k (by omega);have hCs:∀ k,aQ k C=C:=fun _=>by rw[hC];rfl
  have hCd:aH C=C:=by rw[hC];rfl
  obtain⟨P0,p1,p2⟩:=wL a b i (k+1) (Nat.le_refl i) hi;rw[<- hC] at p1;generalize hW:AV.ss (1+(a.length - i)) 0 (b.length+1) 1=W at p2;have hWd:aH W=W:=by rw[<- hW];rfl
  have row:∀ x,x<=b.length->∃ Q,iaK 1 W (.int .i64 (x:Int))=some Q/\(∀ m,ldA .sh false 1 m (tbS a b i (k+1)) Q=some (.int .i64 (if k+1<=x then bwd a b i x else 0)))/\∀ l m y,stX .sh 1 l m (tbS a b i (k+1)) Q (some [.int .i64 y])=some (ST l m ((tbS a b i (k+1)).set (1+(a.length - i)) (icl ((iS (bwd a b i) (k+1) b.length).set x y)))):=by
   intro x hx;rw[<- hW];exact yR (CM a b i (k+1) hi rfl) (fV _ _ _) (iF _ _ hx)
  obtain⟨Q,b1,b2,b3⟩:=row k hkm;have b3:=fun l m=>b3 l m (bwd a b i k)
  rw[GI a b hi hkm] at b3;rw[hk,<- ih]
  conv=>lhs;rw[aA (L:=AP) rfl]
  by_cases hin:i < a.length
  ·have hin':(i:Int) < (a.length:Int):=by omega
   obtain⟨t,hgt⟩:∃ t,a[i]?=some t:=⟨_,getElem?_eq_getElem hin⟩
   have ht:=hat t (mem_of_getElem? hgt);have hrt:=bZ hgt;have gt:=t67 t;have hal:=iL t;obtain⟨P1,p3,p4⟩:=wL a b i (k+1) (show i<=i+1 by omega) (show i+1<=a.length by omega);rw[<- hC] at p3;generalize hW1:AV.ss (1+(a.length - (i+1))) 0 (b.length+1) 1=W1 at p4;have hW1d:aH W1=W1:=by rw[<- hW1];rfl
   have row1:∀ x,x<=b.length->∃ Q,iaK 1 W1 (.int .i64 (x:Int))=some Q/\(∀ m,ldA .sh false 1 m (tbS a b i (k+1)) Q=some (.int .i64 (bwd a b (i+1) x))):=by
    intro x hx;rw[<- hW1];have e:=iF (bwd a b (i+1)) 0 hx;rw[if_pos (by omega)] at e;obtain⟨Q,q1,q2,_⟩:=yR (LR a b i (k+1) hin rfl) (fV _ _ _) e;exact⟨Q,q1,q2⟩
   obtain⟨Q1,c1,c2⟩:=row1 k hkm;have hb1:=qU a b (i+1) k (by omega) (by omega);obtain⟨X1,hs1,hx1⟩:∃ X,IntKind.i64.wrap ((aln t:Int)+bwd a b (i+1) k)=X/\(aln t:Int)+bwd a b (i+1) k=X:=⟨_,w64 (by omega) (by omega),rfl⟩
   by_cases hkn:k < b.length
   ·have hkn':(k:Int) < (b.length:Int):=by omega
    obtain⟨u,hgu⟩:∃ u,b[k]?=some u:=⟨_,getElem?_eq_getElem hkn⟩
    have hu:=hbt u (mem_of_getElem? hgu);have hru:=bZ hgu;have gu:=t67 u;have hau:=iL u;have gc:=t66 t u ht hu;obtain⟨Q2,d1,d2⟩:=row1 (k+1) (by omega);obtain⟨Q3,f1,f2,_⟩:=row (k+1) (by omega);rw[if_pos (Nat.le_refl _)] at f2;have hb2:=qU a b i (k+1) (by omega) (by omega);have hb3:=qU a b (i+1) (k+1) (by omega) (by omega);obtain⟨X2,hs2,hx2⟩:∃ X,IntKind.i64.wrap ((aln u:Int)+bwd a b i (k+1))=X/\(aln u:Int)+bwd a b i (k+1)=X:=⟨_,w64 (by omega) (by omega),rfl⟩
    have hss:=N7 hgt hgu;rw[hx1,hx2] at hss;cases hcs:cst t u with
    | none =>
     rw[hcs] at hss gc;simp only at hss;obtain⟨k1,s1,n1⟩:=u;obtain⟨k2,s2,n2⟩:=t;simp only[tkR,fK] at gu gt gc hru hrt ⊢;by_cases q:X2 < X1
     ·have hf:bwd a b i k=X2:=by rw[hss];omega
      rw[hf] at b3;simp only[go_sem,aG,hg0,hi0,hin',hkn',hrt,hru,gt,gu,gc,hwk,hwi,hw1,p1,p2,p3,p4,hCs,hCd,hWd,hW1d,c1,c2,d1,d2,f1,f2,hs1,hs2,q,b1,b3]
     ·have hf:bwd a b i k=X1:=by rw[hss];omega
      rw[hf] at b3;simp only[go_sem,aG,hg0,hi0,hin',hkn',hrt,hru,gt,gu,gc,hwk,hwi,hw1,p1,p2,p3,p4,hCs,hCd,hWd,hW1d,c1,c2,d1,d2,f1,f2,hs1,hs2,q,b1,b3]
    | some v =>
     rw[hcs] at hss gc;simp only at hss;have hv:=FG hcs;obtain⟨X3,hs3,hx3⟩:∃ X,IntKind.i64.wrap ((v:Int)+bwd a b (i+1) (k+1))=X/\(v:Int)+bwd a b (i+1) (k+1)=X:=⟨_,w64 (by omega) (by omega),rfl⟩
     rw[hx3] at hss;obtain⟨k1,s1,n1⟩:=u;obtain⟨k2,s2,n2⟩:=t;simp only[tkR,fK] at gu gt gc hru hrt ⊢;by_cases q:X1 < X3
     ·by_cases q2:X2 < X1
      ·have hf:bwd a b i k=X2:=by rw[hss];omega
       rw[hf] at b3;simp only[go_sem,aG,hg0,hi0,hin',hkn',hrt,hru,gt,gu,gc,hwk,hwi,hw1,p1,p2,p3,p4,hCs,hCd,hWd,hW1d,c1,c2,d1,d2,f1,f2,hs1,hs2,hs3,q,q2,b1,b3]
      ·have hf:bwd a b i k=X1:=by rw[hss];omega
       rw[hf] at b3;simp only[go_sem,aG,hg0,hi0,hin',hkn',hrt,hru,gt,gu,gc,hwk,hwi,hw1,p1,p2,p3,p4,hCs,hCd,hWd,hW1d,c1,c2,d1,d2,f1,f2,hs1,hs2,hs3,q,q2,b1,b3]
     ·by_cases q2:X2 < X3
      ·have hf:bwd a b i k=X2:=by rw[hss];omega
       rw[hf] at b3;simp only[go_sem,aG,hg0,hi0,hin',hkn',hrt,hru,gt,gu,gc,hwk,hwi,hw1,p1,p2,p3,p4,hCs,hCd,hWd,hW1d,c1,c2,d1,d2,f1,f2,hs1,hs2,hs3,q,q2,b1,b3]
      ·have hf:bwd a b i k=X3:=by rw[hss];omega
       rw[hf] at b3;simp only[go_sem,aG,hg0,hi0,hin',hkn',hrt,hru,gt,gu,gc,hwk,hwi,hw1,p1,p2,p3,p4,hCs,hCd,hWd,hW1d,c1,c2,d1,d2,f1,f2,hs1,hs2,hs3,q,q2,b1,b3]
   ·have hkn':¬ (k:Int) < (b.length:Int):=by omega
    have hkb:k=b.length:=by omega
    have hf:bwd a b i k=X1:=by rw[<- hx1,hkb,N8 hgt]
    rw[hf] at b3;obtain⟨k2,s2,n2⟩:=t;simp only[tkR] at gt hrt ⊢;simp only[go_sem,aG,hg0,hi0,hin',hkn',hrt,gt,hwk,hwi,hw1,p1,p2,p3,p4,hCs,hCd,hWd,hW1d,c1,c2,hs1,b1,b3]
  ·have hin':¬ (i:Int) < (a.length:Int):=by omega
   have hia:i=a.length:=by omega
   by_cases hkn:k < b.length
   ·have hkn':(k:Int) < (b.length:Int):=by omega
    obtain⟨u,hgu⟩:∃ u,b[k]?=some u:=⟨_,getElem?_eq_getElem hkn⟩
    have hru:=bZ hgu;have gu:=t67 u;have hau:=iL u;obtain⟨Q3,f1,f2,_⟩:=row (k+1) (by omega);rw[if_pos (Nat.le_refl _)] at f2;have hb2:=qU a b i (k+1) (by omega) (by omega);obtain⟨X2,hs2,hx2⟩:∃ X,IntKind.i64.wrap ((aln u:Int)+bwd a b i (k+1))=X/\(aln u:Int)+bwd a b i (k+1)=X:=⟨_,w64 (by omega) (by omega),rfl⟩
    have hf:bwd a b i k=X2:=by rw[<- hx2,hia,N9 hgu]
    rw[hf] at b3;obtain⟨k1,s1,n1⟩:=u;simp only[tkR] at gu hru ⊢;simp only[go_sem,aG,hg0,hi0,hin',hkn',hru,gu,hwk,hwi,hw1,p1,p2,hCs,hCd,hWd,f1,f2,hs2,b1,b3]
   ·have hkn':¬ (k:Int) < (b.length:Int):=by omega
    have hkb:k=b.length:=by omega
    have hf:bwd a b i k=0:=by rw[hia,hkb,OA]
    rw[hf] at b3;simp only[go_sem,aG,hg0,hi0,hin',hkn',hwk,hwi,hw1,p1,p2,hCs,hCd,hWd,b1,b3]
end Go.Av
namespace Go.Av
open Go.Nt
theorem KZ {C:AV} (a b:List Tk) (ha:a.length<=5000) (hb:b.length<=5000) (hat:∀ x∈a,x.2.1.length<=1000000) (hbt:∀ x∈b,x.2.1.length<=1000000) (hC:C=.ss 0 0 (a.length+1) 1):∀ (i:Nat),i<=a.length+1 ->
  aD G0 AO (ST [(0,.sl .no 3 (tks a)),(1,.sl .no 3 (tks b)),(5,C),(6,.int .i64 ((i:Int) - 1))] [] (iR a.length b.length i :: kG a b i))
  =some (.ex 0,ST [(0,.sl .no 3 (tks a)),(1,.sl .no 3 (tks b)),(5,C),(6,.int .i64 (-1)),(21,.bool false)] [] (iR a.length b.length 0 :: kG a b 0))
 | 0,h=>by
  have hCs:∀ k,aQ k C=C:=fun _=>by rw[hC];rfl
  have e:((0:Nat):Int) - 1 = -1:=rfl;have e2:¬ (0:Int)<=-1:=by omega
  rw[aA (L:=AO) rfl,e];simp only[go_sem,hCs,e2]
 | i+1,h=>by
  have hia:i<=a.length:=by omega
  have hk:((i+1:Nat):Int) - 1=(i:Int):=by omega
  have hi0:(0:Int)<=(i:Int):=by omega
  have hw1:IntKind.i64.wrap ((i:Int) - 1)=(i:Int) - 1:=w64 (by omega) (by omega);have hwm:IntKind.i64.wrap ((b.length:Int)+1)=((b.length+1:Nat):Int):=by rw[w64 (by omega) (by omega)];rfl
  have ih:=KZ a b ha hb hat hbt hC i (by omega);have hCs:∀ k,aQ k C=C:=fun _=>by rw[hC];rfl
  have hCd:aH C=C:=by rw[hC];rfl
  have hin:=K0 a b i hia ha hb hat hbt hC (b.length+1) (by omega);rw[show ((b.length+1:Nat):Int) - 1=(b.length:Int) by omega,KI a b hia] at hin;have hz:aT [AV.int .i64 0] (b.length+1)=icl (iS (bwd a b i) (b.length+1) b.length):=by
   rw[kW,<- BH];unfold icl;rw[map_replicate]
  obtain⟨S,hS⟩:∃ S,S=iR a.length b.length (i+1) :: kG a b (i+1):=⟨_,rfl⟩
  have hSl:S.length=1+(a.length - i):=by rw[hS,length_cons,gW];omega
  have c1:iaK 1 C (.int .i64 (i:Int))=some (.ptr 0 i):=by
   rw[hC,kM,if_pos (by omega),Int.toNat_natCast];simp
  have c3:∀ l m,stX .sh 1 l m (S++[icl (iS (bwd a b i) (b.length+1) b.length)]) (.ptr 0 i) (some [.ss (1+(a.length - i)) 0 (b.length+1) 1])=some (ST l m (tbS a b i (b.length+1))):=by
   intro l m;rw[oJ,hS];show (some (iR a.length b.length (i+1))).bind _=_;simp only[Option.bind_some];rw[if_pos (CK _ _ _),rO (by rw[iW];omega),CJ hia,Option.map_some];rfl
  generalize AV.ptr 0 i=P at c1 c3;have hg:(0:Int)<=((b.length+1:Nat):Int)/\((b.length+1:Nat):Int)<=((b.length+1:Nat):Int)/\((b.length+1:Nat):Int)*8<=140737488355328/\((b.length+1:Nat):Int)<=4611686018427387904:=by omega
  obtain⟨g1,g2,g3,g4⟩:=hg;rw[hk,<- hS,<- ih]
  conv=>lhs;rw[aA (L:=AO) rfl]
  simp only[go_sem,aG,hi0,hw1,hwm,hCs,hCd,g1,g2,g3,g4,hz,hSl,c1,c3,hin]
theorem t42 (a b:List Tk) (ha:a.length<=5000) (hb:b.length<=5000) (hat:∀ x∈a,x.2.1.length<=1000000) (hbt:∀ x∈b,x.2.1.length<=1000000):G0 42 [.sl .no 3 (tks a),.sl .no 3 (tks b)] []=some (.ss 0 0 (a.length+1) 1,iR a.length b.length 0 :: kG a b 0):=by
 have x:=KZ (C:=.ss 0 0 (a.length+1) 1) a b ha hb hat hbt rfl (a.length+1) (Nat.le_refl _);rw[show ((a.length+1:Nat):Int) - 1=(a.length:Int) by omega,CI] at x;have hw:IntKind.i64.wrap ((a.length:Int)+1)=((a.length+1:Nat):Int):=by rw[w64 (by omega) (by omega)];rfl
 have hz:aT [AV.sl .full 1 []] (a.length+1)=iR a.length b.length (a.length+1):=by rw[kW,A4 _ b.length]
 obtain⟨g1,g2,g3,g4⟩:(0:Int)<=((a.length+1:Nat):Int)/\((a.length+1:Nat):Int)<=((a.length+1:Nat):Int)/\((a.length+1:Nat):Int)*24<=140737488355328/\((a.length+1:Nat):Int)<=4611686018427387904:=by omega
 refine aB F42 rfl rfl rfl ?_;simp only[F42,go_sem,aG,hw,g1,g2,g3,g4,hz,x]
end Go.Av
namespace Go.Av
open Go.Nt
def cnk {κ:Type} [DecidableEq κ] (l:List κ) (x:κ):Nat:=l.count x
theorem JO {κ:Type} [DecidableEq κ] (l m:List κ) (x:κ):cnk (l++m) x=cnk l x+cnk m x:=count_append
theorem z6 {κ:Type} [DecidableEq κ] (y x:κ):cnk [y] x=if y=x then 1 else 0:=by unfold cnk;rw[count_singleton];simp
theorem FH {κ:Type} [DecidableEq κ] (l:List κ) (x:κ):cnk l x<=l.length:=count_le_length
theorem sC {κ:Type} [DecidableEq κ] (l:List κ) (x:κ):cnk l x=0↔x ∉ l:=count_eq_zero
theorem SZ {κ:Type} [DecidableEq κ] (a b:List κ) (x:κ):dfL a b x=dfN (cnk a x) (cnk b x):=rfl
theorem LU {κ:Type} [DecidableEq κ] (a b p l:List κ) (x:κ):uF a b p (x :: l)=(if x∈p\/x∈a then 0 else cnk b x)+uF a b (p++[x]) l:=rfl
theorem LW {κ:Type} [DecidableEq κ] (a b p l:List κ) (x:κ):rD a b p (x :: l)=(if x∈p then 0 else dfN (cnk a x) (cnk b x))+rD a b (p++[x]) l:=rfl
def kyP (t:Tk):Int × List UInt8:=(t.1,t.2.1)
def tms (l:List Tk) (t:Tk):Nat:=l.countP fun x=>smT x t
theorem sU (l:List Tk) (t:Tk):tms l t<=l.length:=countP_le_length
theorem P5 {l:List Tk} {i:Nat} {x:Tk} (h:l[i]?=some x) (t:Tk):tms (l.take (i+1)) t=tms (l.take i) t+(if smT x t=true then 1 else 0):=by
 unfold tms;rw[take_add_one,h];show List.countP _ (l.take i++[x])=_;rw[countP_append,countP_singleton]
theorem x8 (l m:List Tk):tky (l++m)=tky l++tky m:=by unfold tky;rw[filter_append,map_append]
theorem x7 (t:Tk):tky [t]=if tgT t=true then [kyP t] else []:=by
 unfold tky;by_cases h:tgT t=true
 ·rw[if_pos h];simp [h,kyP]
 ·rw[if_neg h];simp [h]
theorem uC (t:Tk) (l:List Tk):tky (t :: l)=(if tgT t=true then [kyP t] else [])++tky l:=by
 rw[<- x7,<- x8];rfl
theorem gN {t:Tk} (ht:tgT t=true):∀ l:List Tk,tms l t=cnk (tky l) (kyP t)
 | []=>rfl
 | x :: l=>by
  have ih:=gN ht l;unfold tms at ih ⊢;rw[countP_cons,ih,uC,JO];by_cases e:smT x t=true
  ·obtain⟨e1,e2⟩:=lB.1 e
   have hx:tgT x=true:=by unfold tgT at ht ⊢;rw[e1];exact ht
   have hk:kyP x=kyP t:=by unfold kyP;rw[e1,e2]
   rw[if_pos e,if_pos hx,z6,if_pos hk];omega
  ·rw[if_neg e]
   by_cases hx:tgT x=true
   ·rw[if_pos hx]
    have hk:kyP x≠kyP t:=fun z=>e (lB.2 (Prod.mk.inj z))
    rw[z6,if_neg hk];omega
   ·rw[if_neg hx]
    show _=0+_;omega
theorem pR {κ:Type} [DecidableEq κ]:∀ (l acc:List κ),(lP acc l).length<=acc.length+l.length
 | [],acc=>by simp [lP]
 | x :: l,acc=>by
  rw[lP];split
  ·have:=pR l acc;simp;omega
  ·rename_i h
   have:=pR l (acc++[x]);simp at this ⊢;omega
theorem CQ {α:Type} (f:α->Nat) (M:Nat):∀ (l:List α),(∀ x,f x<=M)->(l.map f).sum<=l.length*M
 | [],_=>by simp
 | x :: l,h=>by
  have:=CQ f M l h
  have:=h x
  rw[map_cons,sum_cons,length_cons,Nat.succ_mul];omega
theorem oI (a b:List Tk) (ha:a.length<=5000) (hb:b.length<=5000):iB a b<=100000000:=by
 have k1:(tky a).length<=5000:=by unfold tky;rw[length_map];exact Nat.le_trans (length_filter_le _ _) ha
 have k2:(tky b).length<=5000:=by unfold tky;rw[length_map];exact Nat.le_trans (length_filter_le _ _) hb
 unfold iB mU;have h1:=pR (tky a++tky b) [];rw[length_append,length_nil] at h1
 have h2:=CQ (dfL (tky a) (tky b)) 10000 (lP [] (tky a++tky b)) (fun x=>by
  have:=FH (tky a) x
  have:=FH (tky b) x
  rw[SZ];unfold dfN
  omega)
 have h3:(lP [] (tky a++tky b)).length*10000<=10000*10000:=Nat.mul_le_mul_right _ (by omega);omega
theorem l69 (l:List Tk) (t:Tk) (hl:l.length<=100000):∀ (d i:Nat),i+d=l.length ->
  aD G0 AH (ST [(0,.sl .no 3 (tks l)),(3,.loc 3 0),(5,.int .i64 (tms (l.take i) t)),(8,.int .i64 l.length),(9,.int .i64 i)] [(3,some (tkR t))] [])
  =some (.ex 0,ST [(0,.sl .no 3 (tks l)),(3,.loc 3 0),(5,.int .i64 (tms l t)),(8,.int .i64 l.length),(9,.int .i64 l.length),(10,.bool false)] [(3,some (tkR t))] [])
 | 0,i,h=>by
  have:i=l.length:=by omega
  subst this;rw[aA (L:=AH) rfl,take_length];simp only[go_sem,Int.lt_irrefl]
 | d+1,i,h=>by
  have hi:i < l.length:=by omega
  have h0:(0:Int)<=(i:Int):=by omega
  have h1:(i:Int) < (l.length:Int):=by omega
  have hw:=wI (i:=i) (by omega)
  obtain⟨x,hg⟩:∃ x,l[i]?=some x:=⟨_,getElem?_eq_getElem hi⟩
  have hr:=bZ hg;have g:=t80 x t;have ih:=l69 l t hl d (i+1) (by omega);have hb:=sU (l.take i) t;have hlt:(l.take i).length<=l.length:=by rw[length_take];omega
  rw[P5 hg t] at ih;rw[<- ih]
  conv=>lhs;rw[aA (L:=AH) rfl]
  obtain⟨k,s,n⟩:=x;obtain⟨k2,s2,n2⟩:=t;simp only[tkR] at g hr ⊢;by_cases e:smT (k,s,n) (k2,s2,n2)=true
  ·have hs:IntKind.i64.wrap (((tms (l.take i) (k2,s2,n2)):Int)+1)=((tms (l.take i) (k2,s2,n2)+1:Nat):Int):=by rw[w64 (by omega) (by omega)];rfl
   rw[e] at g;rw[if_pos e];simp only[go_sem,aG,h0,h1,hr,hw,g,hs]
  ·have e':smT (k,s,n) (k2,s2,n2)=false:=by simpa using e
   rw[e'] at g;rw[if_neg e,Nat.add_zero];simp only[go_sem,aG,h0,h1,hr,hw,g]
theorem t69 (l:List Tk) (t:Tk) (hl:l.length<=100000):G0 69 [.sl .no 3 (tks l),.agg (tkR t)] []=some (.int .i64 (tms l t),[]):=by
 have x:=l69 l t hl l.length 0 (by omega);have e0:((0:Nat):Int)=0:=rfl;have e1:((tms (l.take 0) t:Nat):Int)=0:=rfl;rw[e0,e1] at x;obtain⟨k,s,n⟩:=t;simp only[tkR] at x ⊢;refine aB F69 rfl rfl rfl ?_;simp only[F69,go_sem,aG,x]
theorem uA {l:List Tk} {i:Nat} {t:Tk} (h:l[i]?=some t):tky (l.take (i+1))=tky (l.take i)++(if tgT t=true then [kyP t] else []):=by
 rw[take_add_one,h,<- x7,<- x8];rfl
theorem uB {l:List Tk} {i:Nat} {t:Tk} (h:l[i]?=some t):tky (l.drop i)=(if tgT t=true then [kyP t] else [])++tky (l.drop (i+1)):=by
 rw[l7 h,uC]
theorem JK (x y:Nat):max ((x:Int) - (y:Int)) (-((x:Int) - (y:Int)))=((dfN x y:Nat):Int):=by unfold dfN;omega
theorem KY (a b:List Tk) (ha:a.length<=5000) (hb:b.length<=5000) (T:Nat) (hT:T<=1000000000):∀ (d i s:Nat),i+d=a.length->s+rD (tky a) (tky b) (tky (a.take i)) (tky (a.drop i))=T ->
  aD G0 AN (ST [(0,.sl .no 3 (tks a)),(1,.sl .no 3 (tks b)),(5,.int .i64 s),(11,.sl .no 3 (tks a)),(12,.int .i64 a.length),(13,.int .i64 i)] [] [])
  =some (.ex 0,ST [(0,.sl .no 3 (tks a)),(1,.sl .no 3 (tks b)),(5,.int .i64 T),(11,.sl .no 3 (tks a)),(12,.int .i64 a.length),(13,.int .i64 a.length),(14,.bool false)] [] [])
 | 0,i,s,h,hs=>by
  have:i=a.length:=by omega
  subst this;rw[drop_length] at hs;have hs':s=T:=hs;rw[aA (L:=AN) rfl,hs'];simp only[go_sem,Int.lt_irrefl]
 | d+1,i,s,h,hs=>by
  have hi:i < a.length:=by omega
  have h0:(0:Int)<=(i:Int):=by omega
  have h1:(i:Int) < (a.length:Int):=by omega
  have hw:=wI (i:=i) (by omega)
  obtain⟨t,hg⟩:∃ t,a[i]?=some t:=⟨_,getElem?_eq_getElem hi⟩
  have hr:=bZ hg;have g:=t68 t;have hsl:=s4 a i (by omega);have gp:=t69 (a.take i) t (by rw[length_take];omega);have ga:=t69 a t (by omega);have gb:=t69 b t (by omega);have ih:=fun s hs=>KY a b ha hb T hT d (i+1) s (by omega) hs
  rw[uA hg] at ih;rw[uB hg] at hs
  conv=>lhs;rw[aA (L:=AN) rfl]
  by_cases ht:tgT t=true
  ·rw[if_pos ht] at hs ih
   have hs:s+rD (tky a) (tky b) (tky (a.take i)) (kyP t :: tky (a.drop (i+1)))=T:=hs;rw[LW,<- gN ht,<- gN ht] at hs;rw[ht] at g;by_cases hm:kyP t∈tky (a.take i)
   ·rw[if_pos hm] at hs
    have hp:¬ (tms (a.take i) t:Int)=0:=by
     have:¬ cnk (tky (a.take i)) (kyP t)=0:=fun z=>(sC _ _).1 z hm
     rw[<- gN ht] at this;omega
    have ih2:=ih s (by omega);obtain⟨k1,s1,n1⟩:=t;simp only[tkR] at g hr gp ga gb;rw[<- ih2];simp only[go_sem,aG,h0,h1,hr,hw,g,hsl,gp,hp]
   ·rw[if_neg hm] at hs
    have hp:(tms (a.take i) t:Int)=0:=by
     have:cnk (tky (a.take i)) (kyP t)=0:=(sC _ _).2 hm
     rw[<- gN ht] at this;omega
    have b1:=sU a t;have b2:=sU b t;have hx:=JK (tms a t) (tms b t);obtain⟨X,hX,hX'⟩:∃ X,IntKind.i64.wrap ((tms a t:Int) - (tms b t:Int))=X/\(tms a t:Int) - (tms b t:Int)=X:=⟨_,w64 (by omega) (by omega),rfl⟩
    have hn:IntKind.i64.wrap (0 - X) = -X:=by rw[w64 (by omega) (by omega)];omega
    rw[hX'] at hx;have hsum:IntKind.i64.wrap ((s:Int)+((dfN (tms a t) (tms b t):Nat):Int))=((s+dfN (tms a t) (tms b t):Nat):Int):=by rw[w64 (by omega) (by omega)];rfl
    have ih2:=ih (s+dfN (tms a t) (tms b t)) (by omega);obtain⟨k1,s1,n1⟩:=t;simp only[tkR] at g hr gp ga gb;rw[hp] at gp;rw[<- ih2];simp only[go_sem,aG,h0,h1,hr,hw,g,hsl,gp,ga,gb,hX,hn,hx,hsum]
  ·rw[if_neg ht] at hs ih
   have ht':tgT t=false:=by simpa using ht
   rw[ht'] at g;rw[append_nil] at ih;have ih2:=ih s (by simpa using hs);obtain⟨k1,s1,n1⟩:=t;simp only[tkR] at g hr gp ga gb;rw[<- ih2];simp only[go_sem,aG,h0,h1,hr,hw,g]
theorem KX (a b:List Tk) (ha:a.length<=5000) (hb:b.length<=5000) (T:Nat) (hT:T<=1000000000):∀ (d i s:Nat),i+d=b.length->s+uF (tky a) (tky b) (tky (b.take i)) (tky (b.drop i))=T ->
  aD G0 AM (ST [(0,.sl .no 3 (tks a)),(1,.sl .no 3 (tks b)),(5,.int .i64 s),(11,.sl .no 3 (tks a)),(12,.int .i64 a.length),(13,.int .i64 a.length),(14,.bool false),(42,.sl .no 3 (tks b)),(43,.int .i64 b.length),(44,.int .i64 i)] [] [])
  =some (.ex 2,ST [(0,.sl .no 3 (tks a)),(1,.sl .no 3 (tks b)),(5,.int .i64 T),(11,.sl .no 3 (tks a)),(12,.int .i64 a.length),(13,.int .i64 a.length),(14,.bool false),(42,.sl .no 3 (tks b)),(43,.int .i64 b.length),(44,.int .i64 b.length),(45,.bool false)] [] [])
 | 0,i,s,h,hs=>by
  have:i=b.length:=by omega
  subst this;rw[drop_length] at hs;have hs':s=T:=hs;rw[aA (L:=AM) rfl,hs'];simp only[go_sem,Int.lt_irrefl]
 | d+1,i,s,h,hs=>by
  have hi:i < b.length:=by omega
  have h0:(0:Int)<=(i:Int):=by omega
  have h1:(i:Int) < (b.length:Int):=by omega
  have hw:=wI (i:=i) (by omega)
  obtain⟨t,hg⟩:∃ t,b[i]?=some t:=⟨_,getElem?_eq_getElem hi⟩
  have hr:=bZ hg;have g:=t68 t;have hsl:=s4 b i (by omega);have gp:=t69 (b.take i) t (by rw[length_take];omega);have ga:=t69 a t (by omega);have gb:=t69 b t (by omega);have ih:=fun s hs=>KX a b ha hb T hT d (i+1) s (by omega) hs
  rw[uA hg] at ih;rw[uB hg] at hs
  conv=>lhs;rw[aA (L:=AM) rfl]
  by_cases ht:tgT t=true
  ·rw[if_pos ht] at hs ih
   have hs:s+uF (tky a) (tky b) (tky (b.take i)) (kyP t :: tky (b.drop (i+1)))=T:=hs;rw[LU,<- gN ht] at hs;rw[ht] at g;by_cases hm:kyP t∈tky (b.take i)
   ·rw[if_pos (.inl hm)] at hs
    have hp:¬ (tms (b.take i) t:Int)=0:=by
     have:¬ cnk (tky (b.take i)) (kyP t)=0:=fun z=>(sC _ _).1 z hm
     rw[<- gN ht] at this;omega
    have ih2:=ih s (by omega);obtain⟨k1,s1,n1⟩:=t;simp only[tkR] at g hr gp ga gb;rw[<- ih2];simp only[go_sem,aG,h0,h1,hr,hw,g,hsl,gp,hp]
   ·have hp:(tms (b.take i) t:Int)=0:=by
     have:cnk (tky (b.take i)) (kyP t)=0:=(sC _ _).2 hm
     rw[<- gN ht] at this;omega
    by_cases hma:kyP t∈tky a
    ·rw[if_pos (.inr hma)] at hs
     have hp2:¬ (tms a t:Int)=0:=by
      have:¬ cnk (tky a) (kyP t)=0:=fun z=>(sC _ _).1 z hma
      rw[<- gN ht] at this;omega
     have ih2:=ih s (by omega);obtain⟨k1,s1,n1⟩:=t;simp only[tkR] at g hr gp ga gb;rw[hp] at gp;rw[<- ih2];simp only[go_sem,aG,h0,h1,hr,hw,g,hsl,gp,ga,hp2]
    ·rw[if_neg (fun z=>z.elim hm hma)] at hs
     have hp2:(tms a t:Int)=0:=by
      have:cnk (tky a) (kyP t)=0:=(sC _ _).2 hma
      rw[<- gN ht] at this;omega
     have b2:=sU b t;have hsum:IntKind.i64.wrap ((s:Int)+(tms b t:Int))=((s+tms b t:Nat):Int):=by rw[w64 (by omega) (by omega)];rfl
     have ih2:=ih (s+tms b t) (by omega);obtain⟨k1,s1,n1⟩:=t;simp only[tkR] at g hr gp ga gb;rw[hp] at gp;rw[hp2] at ga;rw[<- ih2];simp only[go_sem,aG,h0,h1,hr,hw,g,hsl,gp,ga,gb,hsum]
  ·rw[if_neg ht] at hs ih
   have ht':tgT t=false:=by simpa using ht
   rw[ht'] at g;rw[append_nil] at ih;have ih2:=ih s (by simpa using hs);obtain⟨k1,s1,n1⟩:=t;simp only[tkR] at g hr gp ga gb;rw[<- ih2];simp only[go_sem,aG,h0,h1,hr,hw,g]
theorem t43 (a b:List Tk) (ha:a.length<=5000) (hb:b.length<=5000):G0 43 [.sl .no 3 (tks a),.sl .no 3 (tks b)] []=some (.int .i64 (iB a b),[]):=by
 have hle:=oI a b ha hb;have hre:=GJ (tky a) (tky b);have hst:mU (tky a) (tky b)=iB a b:=rfl;rw[hst] at hre;have x1:=KY a b ha hb (rD (tky a) (tky b) [] (tky a)) (by omega) a.length 0 0 (by omega) (by rw[take_zero,drop_zero,Nat.zero_add];rfl);have x2:=KX a b ha hb (iB a b) (by omega) b.length 0 (rD (tky a) (tky b) [] (tky a)) (by omega) (by rw[take_zero,drop_zero];exact hre);have e0:((0:Nat):Int)=0:=rfl;rw[e0] at x1 x2;refine aB F43 rfl rfl rfl ?_;simp only[F43,go_sem,aG,x1,x2]
end Go.Av
namespace Go.Av
open Go.Nt
theorem t25 (a b:List Tk) (ha:a.length<=5000) (hb:b.length<=5000) (hat:∀ x∈a,x.2.1.length<=1000000) (hbt:∀ x∈b,x.2.1.length<=1000000):G0 25 [.sl .no 3 (tks a),.sl .no 3 (tks b)] []=some (.int .i64 (dst a b),[]):=by
 have g:=t42 a b ha hb hat hbt;rw[<- KI a b (Nat.zero_le _)] at g;have g2:=t43 a b ha hb;have hle:=oI a b ha hb;obtain⟨P,p1,p2⟩:=wL a b 0 0 (Nat.le_refl 0) (Nat.zero_le a.length);have e:=iF (bwd a b 0) 0 (Nat.zero_le b.length);rw[if_pos (Nat.le_refl _)] at e;obtain⟨Q,q1,q2,_⟩:=yR (CM a b 0 0 (Nat.zero_le _) rfl) (fV _ _ _) e;have e0:((0:Nat):Int)=0:=rfl;rw[e0] at p1 q1;have hbd:=qU a b 0 0 (by omega) (by omega);have hl:bwd a b 0 0=(lev cst aln a b:Int):=by unfold bwd;rw[drop_zero,drop_zero]
 have hm:IntKind.i64.wrap (2*(iB a b:Int))=2*(iB a b:Int):=w64 (by omega) (by omega);have hs:IntKind.i64.wrap (bwd a b 0 0+2*(iB a b:Int))=((dst a b:Nat):Int):=by
  rw[w64 (by omega) (by omega),hl];unfold dst;omega
 generalize tbS a b 0 0=S at g p2 q2;refine aB F25 rfl rfl rfl ?_;simp only[F25,go_sem,g,g2,p1,p2,q1,q2,hm,hs]
theorem E8 (a b:List Tk) (ha:a.length<=5000) (hb:b.length<=5000):dst a b<=1000000000:=by
 have h1:=oI a b ha hb;have h2:=pZ _ a b (Nat.le_refl _);unfold dst;omega
theorem t22 (a b:List Tk) (ha:a.length<=5000) (hb:b.length<=5000) (hat:∀ x∈a,x.2.1.length<=1000000) (hbt:∀ x∈b,x.2.1.length<=1000000):G0 22 [.sl .no 3 (tks a),.sl .no 3 (tks b)] []=some (.int .i64 (prT a b),[]):=by
 have g:=t37 a b (by omega) (by omega);have g2:=t38 a b ha hb hat hbt (by have:=oI a b ha hb;omega);have h1:=kD a;have h2:=kD b;have h3:=E8 a b ha hb;have hp:prT a b=prc (max (ttl a) (ttl b)) (dst a b):=rfl;rw[hp];generalize hM:max (ttl a) (ttl b)=M at g ⊢;by_cases hz:M=0
 ·subst hz
  have e:((0:Nat):Int)=0:=rfl;rw[e] at g;have e2:prc 0 (dst a b)=100:=rfl;rw[e2];refine aB F22 rfl rfl rfl ?_;simp only[F22,go_sem,g]
 ·have hq:=Q8 M (dst a b) hz
  have hM0:¬ (M:Int)=0:=by omega
  have hb:=DQ M (dst a b);obtain⟨X,hX,hX'⟩:∃ X,IntKind.i64.wrap ((M:Int) - (dst a b:Int))=X/\(M:Int) - (dst a b:Int)=X:=⟨_,w64 (by omega) (by omega),rfl⟩
  rw[hX'] at hq;have hm:IntKind.i64.wrap (100*max X 0)=100*max X 0:=w64 (by omega) (by omega);have hw:IntKind.i64.wrap ((100*max X 0).tdiv (M:Int))=prc M (dst a b):=by rw[hq,w64 (by omega) (by omega)]
  refine aB F22 rfl rfl rfl ?_;simp only[F22,go_sem,g,g2,hM0,hX,hm,hw]
theorem t10 (a b:List Tk) (ha:a.length<=5000) (hb:b.length<=5000) (hat:∀ x∈a,x.2.1.length<=1000000) (hbt:∀ x∈b,x.2.1.length<=1000000):G0 10 [.sl .no 3 (tks a),.sl .no 3 (tks b)] []=some (.int .i64 (prT a b),[]):=by
 have g:=t24 a b (by omega) (by omega);have g2:=t25 a b ha hb hat hbt;have h1:=kD a;have h2:=kD b;have h3:=E8 a b ha hb;have hp:prT a b=prc (max (ttl a) (ttl b)) (dst a b):=rfl;rw[hp];generalize hM:max (ttl a) (ttl b)=M at g ⊢;by_cases hz:M=0
 ·subst hz
  have e:((0:Nat):Int)=0:=rfl;rw[e] at g;have e2:prc 0 (dst a b)=100:=rfl;rw[e2];refine aB F10 rfl rfl rfl ?_;simp only[F10,go_sem,g]
 ·have hq:=Q7 M (dst a b) hz
  have hM0:¬ (M:Int)=0:=by omega
  obtain⟨X,hX,hX'⟩:∃ X,IntKind.i64.wrap ((M:Int) - (dst a b:Int))=X/\(M:Int) - (dst a b:Int)=X:=⟨_,w64 (by omega) (by omega),rfl⟩
  rw[hX'] at hq;have hm:IntKind.i64.wrap (100*X)=100*X:=w64 (by omega) (by omega);have hw:IntKind.i64.wrap ((100*X).tdiv (M:Int))=(100*X).tdiv (M:Int):=by
   have hM1:(1:Int)<=(M:Int):=by omega
   have hX1:-1000000000<=X/\X<=1000000000:=by omega
   have hab:((100*X).tdiv (M:Int)).natAbs=(100*X).natAbs / (M:Int).natAbs:=Int.natAbs_tdiv (100*X) (M:Int);have hle:(100*X).natAbs / (M:Int).natAbs<=(100*X).natAbs:=Nat.div_le_self _ _;rw[<- hab] at hle;generalize (100*X).tdiv (M:Int)=Y at hle;exact w64 (by omega) (by omega)
  refine aB F10 rfl rfl rfl ?_;simp only[F10,go_sem,g,g2,hM0,hX,hm,hw,hq]
end Go.Av
namespace Go.Av
open Go.Nt
theorem J2 {s:List UInt8} (h:1<=s.length):(s != [])=true:=by
 cases s with
 | nil=>simp at h
 | cons a l=>rfl
theorem mE:∀ (k:Nat) (s:List UInt8),(mF k s).length<=s.length/\∀ t∈mF k s,t.2.1.length<=s.length
 | 0,s=>by simp [mF]
 | k+1,s=>by
  simp only[mF];split
  ·rename_i h
   have hn:=DY s h;have ih:=mE k (s.drop (nxN s));simp only[length_drop] at ih;refine⟨by simp only[length_cons];omega,fun t ht=>?_⟩;simp only[mem_cons] at ht;rcases ht with ht | ht
   ·subst ht;simp;omega
   ·have:=ih.2 t ht;omega
  ·simp
theorem xZ {f:List Tk}:∀ t∈f,t.2.1.length<=tot f:=by
 induction f with
 | nil=>intro t ht;cases ht
 | cons a f ih =>
  intro t ht;rw[cB];rcases mem_cons.1 ht with rfl | h
  ·omega
  ·have:=ih t h;omega
def tkT (t:Tk):List Tk:=if t.1=1 then tW t.2.1 else if t.1=2\/t.1=3\/t.1=4\/t.1=5 then [t] else []
def dG:List Tk->List Tk
 | []=>[]
 | t :: l=>tkT t++dG l
theorem GF (t:Tk):(tkT t).length<=t.2.1.length+1/\∀ x∈tkT t,x.2.1.length<=t.2.1.length:=by
 unfold tkT;split
 ·have h:=mE t.2.1.length t.2.1
  exact⟨by unfold tW;omega,h.2⟩
 ·split
  ·exact⟨by simp,fun x hx=>by rw[mem_singleton.1 hx];exact Nat.le_refl _⟩
  ·exact⟨by simp,fun x hx=>by cases hx⟩
theorem kZ:∀ f:List Tk,(dG f).length<=tot f+f.length/\∀ x∈dG f,x.2.1.length<=tot f
 | []=>⟨by simp [dG,tot],fun x hx=>by cases hx⟩
 | t :: l=>by
  have h1:=GF t;have h2:=kZ l;have h3:=cB t l;refine⟨by simp only[dG,length_append,length_cons];omega,fun x hx=>?_⟩;simp only[dG] at hx;rcases mem_append.1 hx with q | q
  ·have:=h1.2 x q;omega
  ·have:=h2.2 x q;omega
theorem P7 (s:Bs) (n:Int):tkT (1,s,n)=tW s:=rfl
theorem P6 (a:Int) (s:Bs) (n:Int) (h:a=2\/a=3\/a=4\/a=5):tkT (a,s,n)=[(a,s,n)]:=by
 unfold tkT;rw[if_neg (show ¬ a=1 by omega),if_pos h]
theorem P8 (a:Int) (s:Bs) (n:Int) (h1:¬ a=1) (h:¬ (a=2\/a=3\/a=4\/a=5)):tkT (a,s,n)=[]:=by
 unfold tkT;rw[if_neg h1,if_neg h]
theorem IY (f:List Tk) (hf:f.length<=600) (ht:∀ t∈f,t.2.1.length<=1000000):∀ (k i:Nat) (md:Own) (out:List Tk),md≠.no->i+k=f.length->out.length+(dG (f.drop i)).length<=1000000 ->
  ∃ md',aD G0 sR (ST [(3,.sl md 3 (tks out)),(6,.sl .no 3 (tks f)),(7,.int .i64 f.length),(8,.int .i64 i)] [] [])=some (.ex 0,ST [(3,.sl md' 3 (tks (out++dG (f.drop i)))),(6,.sl .no 3 (tks f)),(7,.int .i64 f.length),(8,.int .i64 f.length),(9,.bool false)] [] [])
 | 0,i,md,out,hm,h1,h2=>by
  have:i=f.length:=by omega
  subst this;refine⟨md,?_⟩;rw[aA (L:=sR) rfl];simp only[go_sem,Int.lt_irrefl,drop_length,dG,append_nil]
 | k+1,i,md,out,hm,h1,h2=>by
  have h3:i < f.length:=by omega
  have h4:(i:Int) < (f.length:Int):=by omega
  have h0:(0:Int)<=(i:Int):=by omega
  have hw:=wI (i:=i) (by omega)
  have hg:f[i]?=some f[i]:=getElem?_eq_getElem h3;have hd:f.drop i=f[i] :: f.drop (i+1):=drop_eq_getElem_cons h3;have hl:=ht _ (getElem_mem h3);obtain⟨a,s,n,hq⟩:∃ a s n,f[i]=(a,s,n):=⟨_,_,_,rfl⟩
  rw[hq] at hg hd hl;have hr:=bZ hg;rw[hd] at h2 ⊢;simp only[dG,length_append] at h2 ⊢;by_cases c1:a=1
  ·subst c1
   rw[P7] at h2 ⊢;obtain⟨md',ih⟩:=IY f hf ht k (i+1) .own (out++tW s) (by decide) (by omega) (by simp;omega);refine⟨md',?_⟩;rw[append_assoc] at ih;have ha:cG 32 (out.length+(tW s).length)=true:=bH (by decide) (by omega);rw[aA (L:=sR) rfl];simp only[go_sem,h4,h0,hw,hr,XR s hl,bV md .no hm 3 32 (by decide),aG,ha,dQ];exact ih
  ·by_cases c2:a=2\/a=3\/a=4\/a=5
   ·rw[P6 _ _ _ c2] at h2 ⊢
    obtain⟨md',ih⟩:=IY f hf ht k (i+1) .own (out++[(a,s,n)]) (by decide) (by omega) (by simp at h2 ⊢;omega);refine⟨md',?_⟩;rw[append_assoc] at ih;have ha:cG 32 (out.length+1)=true:=bH (by decide) (by simp at h2;omega);rcases c2 with q | q | q | q
    all_goals
     subst q;rw[aA (L:=sR) rfl];simp only[go_sem,h4,h0,hw,hr,Int.reduceEq,bV md _ hm 3 32 (by decide),aG,ha,iA,dQ];exact ih
   ·rw[P8 _ _ _ c1 c2] at h2 ⊢
    obtain⟨md',ih⟩:=IY f hf ht k (i+1) md out hm (by omega) (by simpa using h2);refine⟨md',?_⟩;have e2:¬ a=2:=fun q=>c2 (.inl q)
    have e3:¬ a=3:=fun q=>c2 (.inr (.inl q))
    have e4:¬ a=4:=fun q=>c2 (.inr (.inr (.inl q)))
    have e5:¬ a=5:=fun q=>c2 (.inr (.inr (.inr q)))
    rw[aA (L:=sR) rfl];simp only[go_sem,h4,h0,hw,hr,c1,e2,e3,e4,e5,nil_append];exact ih
theorem k11 (f:List Tk) (hf:f.length<=600) (ht:tot f<=50000):G0 11 [.sl .no 3 (tks f)] []=some (.sl .no 3 (tks (dG f)),[]):=by
 have hb:=kZ f;obtain⟨md',hx⟩:=IY f hf (fun t h=>by have:=xZ t h;omega) f.length 0 .full [] (by decide) (by omega) (by simp;omega);rw[drop_zero,nil_append] at hx;simp only[go_sem,eI] at hx;refine aB F11 rfl rfl rfl ?_;simp only[F11,go_sem,aG,hx]
theorem SE (x:LL) (N i:Int):∀ (k:Nat) (s:List UInt8) (md:Own) (out:List Tk),md≠.no->s.length<=k->s.length<=1000000->out.length+s.length<=2000000 ->
  ∃ md',md'≠.no/\aD G0 wG (ST [(3,.sl md 3 (tks out)),(6,.str s),(9,.sl .no 3 x),(10,.int .i64 N),(11,.int .i64 i),(12,.bool true),(17,.bool false),(26,.bool true)] [] [])=some (.ex 3,ST [(3,.sl md' 3 (tks (out++mF k s))),(6,.str []),(9,.sl .no 3 x),(10,.int .i64 N),(11,.int .i64 i),(12,.bool true),(17,.bool false),(26,.bool true),(31,.bool false)] [] [])
 | 0,s,md,out,hm,h1,_,h2=>by
  have:s=[]:=eq_nil_of_length_eq_zero (by omega)
  subst this;refine⟨md,hm,?_⟩;rw[aA (L:=wG) rfl];simp only[go_sem,mF,Int.lt_irrefl]
 | k+1,s,md,out,hm,h1,hs,h2=>by
  by_cases h3:1<=s.length
  ·have hn:=DY s h3
   obtain⟨md',hm',ih⟩:=SE x N i k (s.drop (nxN s)) .own (out++[(nxK s,s.take (nxN s),0)]) (by decide) (by simp;omega) (by simp;omega) (by simp;omega);have h6:(0:Int)<=(nxN s:Int):=by omega
   have h7:(nxN s:Int)<=(s.length:Int):=by omega
   have ha:cG 32 (out.length+1)=true:=bH (by decide) (by omega);refine⟨md',hm',?_⟩;rw[aA (L:=wG) rfl];simp only[mF,h3,if_true];rw[append_assoc] at ih;simp only[go_sem,J2 h3,XP s hs h3,h6,h7,bV md _ hm 3 32 (by decide),aG,ha,iA,dQ];exact ih
  ·have:s=[]:=eq_nil_of_length_eq_zero (by omega)
   subst this;refine⟨md,hm,?_⟩;rw[aA (L:=wG) rfl];simp only[go_sem,mF,Int.lt_irrefl]
theorem IX (f:List Tk) (hf:f.length<=600) (ht:∀ t∈f,t.2.1.length<=1000000):∀ (k i:Nat) (md:Own) (out:List Tk),md≠.no->i+k=f.length->out.length+(tot (f.drop i)+(f.drop i).length)<=1000000 ->
  ∃ md',aD G0 sO (ST [(3,.sl md 3 (tks out)),(9,.sl .no 3 (tks f)),(10,.int .i64 f.length),(11,.int .i64 i)] [] [])=some (.ex 0,ST [(3,.sl md' 3 (tks (out++dG (f.drop i)))),(9,.sl .no 3 (tks f)),(10,.int .i64 f.length),(11,.int .i64 f.length),(12,.bool false)] [] [])
 | 0,i,md,out,hm,h1,h2=>by
  have:i=f.length:=by omega
  subst this;refine⟨md,?_⟩;rw[aA (L:=sO) rfl];simp only[go_sem,Int.lt_irrefl,drop_length,dG,append_nil]
 | k+1,i,md,out,hm,h1,h2=>by
  have h3:i < f.length:=by omega
  have h4:(i:Int) < (f.length:Int):=by omega
  have h0:(0:Int)<=(i:Int):=by omega
  have hw:=wI (i:=i) (by omega)
  have hg:f[i]?=some f[i]:=getElem?_eq_getElem h3;have hd:f.drop i=f[i] :: f.drop (i+1):=drop_eq_getElem_cons h3;have hl:=ht _ (getElem_mem h3);obtain⟨a,s,n,hq⟩:∃ a s n,f[i]=(a,s,n):=⟨_,_,_,rfl⟩
  rw[hq] at hg hd hl;have hr:=bZ hg;have hb:=kZ (f.drop (i+1));rw[hd] at h2 ⊢;rw[cB,length_cons] at h2;simp only[dG] at h2 ⊢;by_cases c1:a=1
  ·subst c1
   rw[P7];have hc:=mE s.length s;obtain⟨md1,hm1,hx⟩:=SE (tks f) f.length i s.length s md out hm (by omega) hl (by omega);obtain⟨md',ih⟩:=IX f hf ht k (i+1) md1 (out++tW s) hm1 (by omega) (by simp only[length_append,tW];omega);refine⟨md',?_⟩;rw[append_assoc] at ih;rw[aA (L:=sO) rfl];simp only[go_sem,h4,h0,hw,hr,hx];exact ih
  ·by_cases c2:a=2\/a=3\/a=4\/a=5
   ·rw[P6 _ _ _ c2]
    obtain⟨md',ih⟩:=IX f hf ht k (i+1) .own (out++[(a,s,n)]) (by decide) (by omega) (by simp only[length_append,length_singleton];omega);refine⟨md',?_⟩;rw[append_assoc] at ih;have ha:cG 32 (out.length+1)=true:=bH (by decide) (by omega);rcases c2 with q | q | q | q
    all_goals
     subst q;rw[aA (L:=sO) rfl];simp only[go_sem,h4,h0,hw,hr,Int.reduceEq,bV md _ hm 3 32 (by decide),aG,ha,iA,dQ];exact ih
   ·rw[P8 _ _ _ c1 c2]
    obtain⟨md',ih⟩:=IX f hf ht k (i+1) md out hm (by omega) (by omega);refine⟨md',?_⟩;have e2:¬ a=2:=fun q=>c2 (.inl q)
    have e3:¬ a=3:=fun q=>c2 (.inr (.inl q))
    have e4:¬ a=4:=fun q=>c2 (.inr (.inr (.inl q)))
    have e5:¬ a=5:=fun q=>c2 (.inr (.inr (.inr q)))
    rw[aA (L:=sO) rfl];simp only[go_sem,h4,h0,hw,hr,c1,e2,e3,e4,e5,nil_append];exact ih
theorem k21 (f:List Tk) (hf:f.length<=600) (ht:tot f<=50000):G0 21 [.sl .no 3 (tks f)] []=some (.sl .no 3 (tks (dG f)),[]):=by
 obtain⟨md',hx⟩:=IX f hf (fun t h=>by have:=xZ t h;omega) f.length 0 .full [] (by decide) (by omega) (by simp;omega);rw[drop_zero,nil_append] at hx;simp only[go_sem,eI] at hx;refine aB F21 rfl rfl rfl ?_;simp only[F21,go_sem,aG,hx]
end Go.Av
namespace Go.Av
open Go.Nt
def Sg (t:Nat) (f:List Tk):Prop:=(f.length<=10+t/\tot f<=150+4*t)/\GV f
theorem Sg.mono {t t':Nat} {f:List Tk} (h:Sg t f) (ht:t<=t'):Sg t' f:=⟨⟨by have:=h.1.1;omega,by have:=h.1.2;omega⟩,h.2⟩
theorem Sg.vld {f:List Tk} (h:Sg 8 f):vld f=0:=by
 have h1:=h.1.1;have h2:=h.1.2;have hL:=xC f;exact (eH f).2 ⟨h.2.1,by omega,by omega⟩
theorem l6g (l:List Int):∀ (k p:Nat) (L:List (List Tk)) (v:AV) (R:LL),OSt v R L->(∀ f∈L,Sg L.length f)->k+L.length<=8->p<=2000*L.length+10 ->
  ∃ v' R' L' p',OSt v' R' L'/\(∀ f∈L',Sg 8 f)/\L'.length<=8/\aD G0 t7 (ST [(2,.bool false),(7,.ptr 0 0),(8,v),(9,.int .i64 k)] [] (num l p :: R))=some (.ex 0,ST [(2,.bool false),(7,.ptr 0 0),(8,v'),(9,.int .i64 0),(19,.bool false)] [] (num l p' :: R'))
 | 0,p,L,v,R,hst,hs,hk,hp=>by
  refine⟨v,R,L,p,hst,fun f hf=>(hs f hf).mono (by omega),by omega,?_⟩;have hs1:=hst.scrub;rw[aA (L:=t7) rfl];simp only[go_sem,hs1,Int.lt_irrefl]
 | k+1,p,L,v,R,hst,hs,hk,hp=>by
  have hs0:=hst.scrub;have hd0:=hst.dem;have hlen:=hst.len;have hR:=hst.rok;have hk0:(0:Int) < ((k+1:Nat):Int):=by omega
  have hwk:IntKind.i64.wrap (((k+1:Nat):Int) - 1)=(k:Int):=by rw[w64 (by omega) (by omega)];omega
  obtain⟨p1,f0,b1,b2,b3,b4,h42⟩:=XW hR l p (by omega) 4 (by decide) (by decide);have fin:∀ (f:List Tk) (p':Nat),Sg (L.length+1) f->p'<=2000*(L.length+1)+10->∃ v1 R1,OSt v1 R1 (L++[f])/\eS 1 24 (num l p' :: R) (some [[.sl .no 3 (tks f)]]) v=some (v1,num l p' :: R1) /\
   ∃ v' R' L' p'',OSt v' R' L'/\(∀ f∈L',Sg 8 f)/\L'.length<=8/\aD G0 t7 (ST [(2,.bool false),(7,.ptr 0 0),(8,v1),(9,.int .i64 k)] [] (num l p' :: R1))=some (.ex 0,ST [(2,.bool false),(7,.ptr 0 0),(8,v'),(9,.int .i64 0),(19,.bool false)] [] (num l p'' :: R')):=by
   intro f p' hf hp';obtain⟨v1,R1,q1,q2⟩:=X8 hst f (by omega) l p';refine⟨v1,R1,q1,q2,?_⟩
   exact l6g l k p' (L++[f]) v1 R1 q1 (fun g hg=>by
    rw[length_append,length_singleton];rcases mem_append.1 hg with q | q
    ·exact (hs g q).mono (by omega)
    ·simp only[mem_singleton] at q;subst q;exact hf) (by rw[length_append,length_singleton];omega) (by rw[length_append,length_singleton];omega)
  have z0:Sg (L.length+1) f0:=⟨⟨by omega,by omega⟩,SI b4 (by omega)⟩
  by_cases hL:L.length=0
  ·have hl0:¬ (0:Int) < (L.length:Int):=by omega
   obtain⟨v1,R1,q1,q2,v',R',L',p'',i1,i2,i3,i4⟩:=fin f0 p1 z0 (by omega);have hs1:=q1.scrub;have hd1:=q1.dem;refine⟨v',R',L',p'',i1,i2,i3,?_⟩;rw[aA (L:=t7) rfl];simp only[go_sem,hk0,hs0,hd0,hlen,hl0,h42,D9,q2,hs1,hd1,hwk];exact i4
  ·have hl0:(0:Int) < (L.length:Int):=by omega
   have h41:=nM hR l p1 2 (by omega) (by decide) (by decide);by_cases hy:nxt l p1 2=0
   ·have h41b:=nM hR l (p1+1) (L.length:Int) (by omega) (by omega) (by omega)
    have hj:=gS l (p1+1) (L.length:Int) (by omega);generalize nxt l (p1+1) (L.length:Int)=j at h41b hj;obtain⟨jn,rfl⟩:=Int.eq_ofNat_of_zero_le hj.1;have hjl:jn < L.length:=by omega
    have hg:L[jn]?=some L[jn]:=getElem?_eq_getElem hjl;have hfs:=hs _ (getElem_mem hjl);generalize L[jn]=f at hg hfs;have hr:=E2 hg;have h41c:=nM hR l (p1+1+1) 3 (by omega) (by decide) (by decide);have hz:=gS l (p1+1+1) 3 (by decide);generalize nxt l (p1+1+1) 3=z at h41c hz;obtain⟨_,d,hvd,hRd⟩:1<=L.length/\∃ d:Nat,v=.ss (d+1) 0 L.length 1/\R=List.replicate d bB++[frc L]:=by
     rcases hst with ⟨rfl,_,_⟩ | h
     ·exact absurd rfl hL
     ·exact h
    have hia:iaK 1 v (.int .i64 (jn:Int))=some (.ptr (d+1) jn):=by
     rw[hvd,kM,if_pos (by omega),Int.toNat_natCast];simp
    have hat:∀ x:List AV,(x :: R)[d+1]?=some (frc L):=fun x=>by rw[hRd];exact wX d x (frc L)
    obtain⟨⟨s1,s2⟩,s3⟩:=hfs;have c0:z=0\/z=1\/z=2:=by omega
    rcases c0 with rfl | rfl | rfl
    ·have h44:=c44 f (by omega)
     have hnl:=pP f;have h43:=c43 f (by omega) (by omega) (cL f) [9,4,6,2,8,3] (by omega) (by decide);obtain⟨t1,t2⟩:=oN (cL f) [9,4,6,2,8,3] f;obtain⟨t3,t4⟩:=D1 (fW (cL f) [9,4,6,2,8,3] f);have hgv:=NJ s3;generalize nrm (fW (cL f) [9,4,6,2,8,3] f)=g at h43 t3 t4 hgv;obtain⟨v1,R1,q1,q2,v',R',L',p'',i1,i2,i3,i4⟩:=fin g (p1+1+1+1) ⟨⟨by omega,by omega⟩,hgv⟩ (by omega);have hs1:=q1.scrub;have hd1:=q1.dem;refine⟨v',R',L',p'',i1,i2,i3,?_⟩;rw[aA (L:=t7) rfl];simp only[go_sem,hk0,hs0,hd0,hlen,hl0,h42,h41,hy,h41b,hia,hat,hr,h41c,h44,WQ,h43,D9,q2,hs1,hd1,hwk];exact i4
    ·have h37:=c37 f [(1,[32,99,97,114],0)] (by simp;omega) (by simp [tot];simp [tot] at s2;omega)
     have et:tks [(1,[32,99,97,114],0)]=[[.int .i64 1,.str [32,99,97,114],.int .i64 0]]:=rfl;rw[et] at h37;obtain⟨t3,t4⟩:=D1 (f++[(1,[32,99,97,114],0)]);rw[length_append,length_singleton] at t3;rw[d9,cB,dP] at t4;simp only[length_cons,length_nil] at t4;have hgv:=NK s3 (1,[32,99,97,114],0) rfl;generalize nrm (f++[(1,[32,99,97,114],0)])=g at h37 t3 t4 hgv;obtain⟨v1,R1,q1,q2,v',R',L',p'',i1,i2,i3,i4⟩:=fin g (p1+1+1+1) ⟨⟨by omega,by omega⟩,hgv⟩ (by omega);have hs1:=q1.scrub;have hd1:=q1.dem;refine⟨v',R',L',p'',i1,i2,i3,?_⟩;rw[aA (L:=t7) rfl];simp only[go_sem,hk0,hs0,hd0,hlen,hl0,h42,h41,hy,h41b,hia,hat,hr,h41c,h37,D9,q2,hs1,hd1,hwk];exact i4
    ·obtain⟨v1,R1,q1,q2,v',R',L',p'',i1,i2,i3,i4⟩:=fin f (p1+1+1+1) ⟨⟨by omega,by omega⟩,s3⟩ (by omega)
     have hs1:=q1.scrub;have hd1:=q1.dem;refine⟨v',R',L',p'',i1,i2,i3,?_⟩;rw[aA (L:=t7) rfl];simp only[go_sem,hk0,hs0,hd0,hlen,hl0,h42,h41,hy,h41b,hia,hat,hr,h41c,D9,q2,hs1,hd1,hwk];exact i4
   ·obtain⟨v1,R1,q1,q2,v',R',L',p'',i1,i2,i3,i4⟩:=fin f0 (p1+1) z0 (by omega)
    have hs1:=q1.scrub;have hd1:=q1.dem;refine⟨v',R',L',p'',i1,i2,i3,?_⟩;rw[aA (L:=t7) rfl];simp only[go_sem,hk0,hs0,hd0,hlen,hl0,h42,h41,hy,D9,q2,hs1,hd1,hwk];exact i4
theorem k6 (l:List Int) (N:Int) (hN:1<=N) (hN7:N<=8):∃ v R L p,OSt v R L/\(∀ f∈L,Sg 8 f)/\L.length<=8/\G0 6 [.sl .no 1 (aZ l),.int .i64 N,.bool false] []=some (v,num l p :: R):=by
 have h41:=nM J8 l 0 (N+1) (by omega) (by omega) (by omega);have hb:=gS l 0 (N+1) (by omega);have hc:(((nxt l 0 (N+1)).toNat:Nat):Int)=nxt l 0 (N+1):=by omega
 obtain⟨v,R,L,p,q1,q2,q3,q4⟩:=l6g l (nxt l 0 (N+1)).toNat 1 [] (.sl .full 1 []) [] (.inl ⟨rfl,rfl,rfl⟩) (by simp) (by simp;omega) (by simp);rw[hc] at q4;refine⟨v,R,L,p,q1,q2,q3,?_⟩;have hw:IntKind.i64.wrap (N+1)=N+1:=w64 (by omega) (by omega);have hs1:=q1.scrub;have hd1:=q1.dem;have e:num l 0=[.sl .no 1 (aZ l),.int .i64 0]:=rfl;rw[e] at h41;refine aB F6 rfl rfl rfl ?_;simp only[F6,go_sem,hw,h41,q4,hs1,hd1];rcases q1 with ⟨_,rfl,rfl⟩ | ⟨_,d,rfl,rfl⟩
 ·simp only[go_sem]
 ·simp only[go_sem]
end Go.Av
namespace Go.Av
open Go.Nt
theorem GE (t:Tk):(tkT t).length<=wid t:=by
 unfold tkT wid;split
 ·exact (mE t.2.1.length t.2.1).1
 ·split<;>simp
theorem t9:∀ f:List Tk,(dG f).length<=len f
 | []=>by simp [dG]
 | t :: l=>by
  have h1:=GE t;have h2:=t9 l;rw[p9];simp only[dG,length_append];omega
theorem o7 {f:List Tk} (h:vld f=0):(dG f).length<=5000/\(∀ x∈dG f,x.2.1.length<=1000000)/\f.length<=600/\tot f<=50000:=by
 obtain⟨h1,h2,h3⟩:=(eH f).1 h;obtain⟨h4,h5⟩:=oE h;have h6:=t9 f;refine⟨by omega,fun x hx=>?_,by omega,by omega⟩
 have:=(kZ f).2 x hx
 omega
def jW:List (List Tk)->Int
 | []=>0
 | f :: l=>if vld f=0 then jW l else vld f
theorem AB:∀ {L:List (List Tk)},jW L=0->∀ f∈L,vld f=0
 | [],_,f,hf=>by cases hf
 | g :: l,h,f,hf=>by
  unfold jW at h;by_cases q:vld g=0
  ·rw[if_pos q] at h
   rcases mem_cons.1 hf with rfl | hf
   ·exact q
   ·exact AB h f hf
  ·rw[if_neg q] at h;exact absurd h q
theorem AC:∀ {L:List (List Tk)},(∀ f∈L,vld f=0)->jW L=0
 | [],_=>rfl
 | g :: l,h=>by
  unfold jW;rw[if_pos (h g (by simp))];exact AC fun f hf=>h f (by simp [hf])
def iQ (L:List (List Tk)):List (List Tk):=L.map dG
theorem CG (L:List (List Tk)):(iQ L).length=L.length:=by simp [iQ]
theorem x3 {L:List (List Tk)} {i:Nat} {f:List Tk} (h:L[i]?=some f):(iQ L)[i]?=some (dG f):=by simp [iQ,h]
theorem A3 {L:List (List Tk)} {i:Nat} {f:List Tk} (h:L[i]?=some f):iQ (L.take (i+1))=iQ (L.take i)++[dG f]:=by
 unfold iQ;rw[take_add_one,h];simp
theorem vI (L:List (List Tk)) (f:List Tk):frs (L++[f])=frs L++[[.sl .no 3 (tks f)]]:=by simp [frs]
theorem WM (f:List Tk):fD 1 [.sl .full 3 []] 1 [0] [.sl .no 3 (tks f)]=some (.sl .full 1 [[.sl .no 3 (tks f)]]):=rfl
theorem SA {V:AV} {sh:LL} {L:List (List Tk)} (hV:LV V sh L) (hL:L.length<=64) (hb:∀ f∈L,pB f) (T:Int):∀ (k i:Nat) (md:Own),md≠.no->i+k=L.length ->
  (jW (L.drop i)=0->∃ md',md'≠.no/\aD G0 wB (ST [(0,V),(1,.int .i64 T),(6,.sl md 1 (frs (iQ (L.take i)))),(17,.bool false),(23,.bool false),(24,V),(25,.int .i64 L.length),(26,.int .i64 i)] [] sh)
   =some (.ex 0,ST [(0,V),(1,.int .i64 T),(6,.sl md' 1 (frs (iQ L))),(17,.bool false),(23,.bool false),(24,V),(25,.int .i64 L.length),(26,.int .i64 L.length),(27,.bool false)] [] sh)) /\
  (jW (L.drop i)≠0->∃ l',aD G0 wB (ST [(0,V),(1,.int .i64 T),(6,.sl md 1 (frs (iQ (L.take i)))),(17,.bool false),(23,.bool false),(24,V),(25,.int .i64 L.length),(26,.int .i64 i)] [] sh)
   =some (.ret,ST l' [] sh)/\aE .any l' 4=.sl .full 5 []/\aE .any l' 5=.int .i64 (jW (L.drop i)))
 | 0,i,md,hm,h=>by
  have:i=L.length:=by omega
  subst this;have hs:=hV.scrub;refine⟨fun _=>⟨md,hm,?_⟩,fun q=>absurd (by rw[drop_length];rfl) q⟩;rw[take_length,aA (L:=wB) rfl];simp only[go_sem,hs,Int.lt_irrefl]
 | k+1,i,md,hm,h=>by
  have hs:=hV.scrub;have hdv:=hV.dem;have hi:i < L.length:=by omega
  have h4:(i:Int) < (L.length:Int):=by omega
  have h0:(0:Int)<=(i:Int):=by omega
  have hw:=wI (i:=i) (by omega)
  have hg:L[i]?=some L[i]:=getElem?_eq_getElem hi;have hd:L.drop i=L[i] :: L.drop (i+1):=drop_eq_getElem_cons hi;have hsm:=hb _ (getElem_mem hi);generalize L[i]=f at hg hd hsm;obtain⟨P,b1,b2⟩:=hV.at_ i f hg;have b2:=b2 [];simp only[append_nil] at b2;have g20:=c46 f hsm.1 hsm.2;rw[hd];by_cases hv:vld f=0
  ·have eb:jW (f :: L.drop (i+1))=jW (L.drop (i+1)):=by rw[jW,if_pos hv]
   rw[eb];obtain⟨t1,t2,t3,t4⟩:=o7 hv;have g21:=k21 f t3 t4;have ih:=SA hV hL hb T k (i+1) .own (by decide) (by omega);have ha:cG 24 ((iQ (L.take i)).length+1)=true:=bH (by decide) (by rw[CG,length_take];omega);rw[A3 hg,vI] at ih;rw[hv] at g20;have step:aD G0 wB (ST [(0,V),(1,.int .i64 T),(6,.sl md 1 (frs (iQ (L.take i)))),(17,.bool false),(23,.bool false),(24,V),(25,.int .i64 L.length),(26,.int .i64 i)] [] sh)
    =aD G0 wB (ST [(0,V),(1,.int .i64 T),(6,.sl .own 1 (frs (iQ (L.take i))++[[.sl .no 3 (tks (dG f))]])),(17,.bool false),(23,.bool false),(24,V),(25,.int .i64 L.length),(26,.int .i64 ((i+1:Nat):Int))] [] sh):=by
    conv=>lhs;rw[aA (L:=wB) rfl]
    simp only[go_sem,hs,hdv,h4,h0,b1,b2,g20,g21,WM,bV md .full hm 1 24 (by decide),oV,ha,hw]
   rw[step];exact ih
  ·have eb:jW (f :: L.drop (i+1))=vld f:=by rw[jW,if_neg hv]
   rw[eb];refine⟨fun q=>absurd q hv,fun _=>?_⟩;refine Exists.intro ?_ (And.intro ?_ (And.intro ?_ ?_))
   rotate_left 1
   ·rw[aA (L:=wB) rfl]
    simp only[go_sem,hs,hdv,h4,h0,b1,b2,g20,hv];rfl
   ·rfl
   ·rfl
def mtR (p:Int × Int):List AV:=[.int .i64 p.1,.int .i64 p.2,.int .i64 0,.int .i64 0,.int .i64 p.2]
def mts (l:List (Int × Int)):List (List AV):=l.map mtR
theorem tC (l:List (Int × Int)):(mts l).length=l.length:=by simp [mts]
theorem D7 (l:List (Int × Int)) (p:Int × Int):mts (l++[p])=mts l++[mtR p]:=by simp [mts]
theorem D8 {l:List (Int × Int)} {i:Nat} {p:Int × Int} (h:l[i]?=some p):(mts l)[i]?=some (mtR p):=by simp [mts,h]
def pcL (L:List (List Tk)) (k i:Nat):Int:=prT (dG (L.getD k [])) (dG (L.getD i []))
theorem MK (L:List (List Tk)) (k i:Nat):0<=pcL L k i/\pcL L k i<=100:=DQ _ _
theorem LB {P:Nat->Int} {t:Int} {k:Nat} (h1:t<=P k) (h2:(bst P t k).2 < P k):bst P t (k+1)=((k:Int),P k):=by simp only[bst];rw[if_pos ⟨h1,h2⟩]
theorem LC {P:Nat->Int} {t:Int} {k:Nat} (h:¬ (t<=P k/\(bst P t k).2 < P k)):bst P t (k+1)=bst P t k:=by simp only[bst];rw[if_neg h]
theorem WO (a b c d e:Int):fD 5 [.int .i64 0,.int .i64 0,.int .i64 0,.int .i64 0,.int .i64 0] 1 [0] [.agg [.int .i64 a,.int .i64 b,.int .i64 c,.int .i64 d,.int .i64 e]]=some (.sl .full 5 [[.int .i64 a,.int .i64 b,.int .i64 c,.int .i64 d,.int .i64 e]]):=rfl
theorem R9 {V O:AV} {sh:LL} {L:List (List Tk)} (hV:LV V sh L) (hL:L.length<=64) (hb:∀ f∈L,vld f=0) (T:Int) (md:Own) (i:Nat) (hi:i < L.length) (hO:∀ k,aQ k O=O):∀ (d k:Nat),k+d=i ->
  aD G0 KB (ST [(1,.int .i64 T),(6,.sl md 1 (frs (iQ L))),(10,O),(11,.int .i64 i),(12,.loc 12 0),(17,.bool false),(23,.bool false),(24,V),(25,.int .i64 L.length),(26,.int .i64 L.length),(27,.bool false),(42,.int .i64 L.length),(43,.int .i64 i),(44,.bool true),(47,.int .i64 i),(48,.int .i64 k)] [(12,some (mtR (bst (fun k=>pcL L k i) T k)))] sh)
  =some (.ex 4,ST [(1,.int .i64 T),(6,.sl md 1 (frs (iQ L))),(10,O),(11,.int .i64 i),(12,.loc 12 0),(17,.bool false),(23,.bool false),(24,V),(25,.int .i64 L.length),(26,.int .i64 L.length),(27,.bool false),(42,.int .i64 L.length),(43,.int .i64 i),(44,.bool true),(47,.int .i64 i),(48,.int .i64 i),(49,.bool false)] [(12,some (mtR (bst (fun k=>pcL L k i) T i)))] sh)
 | 0,k,h=>by
  have:k=i:=by omega
  subst this;have hs:=hV.scrub;rw[aA (L:=KB) rfl];simp only[go_sem,hs,hO,Int.lt_irrefl,mtR]
 | d+1,k,h=>by
  have hs:=hV.scrub;have hk:k < i:=by omega
  have h4:(k:Int) < (i:Int):=by omega
  have h0:(0:Int)<=(k:Int):=by omega
  have hi0:(0:Int)<=(i:Int):=by omega
  have hw:IntKind.i64.wrap ((k:Int)+1)=((k+1:Nat):Int):=by rw[w64 (by omega) (by omega)];rfl
  obtain⟨f,hf⟩:∃ f,L[k]?=some f:=⟨_,getElem?_eq_getElem (by omega)⟩
  obtain⟨g,hg⟩:∃ g,L[i]?=some g:=⟨_,getElem?_eq_getElem hi⟩
  obtain⟨f1,f2,_,_⟩:=o7 (hb f (mem_of_getElem? hf));obtain⟨g1,g2,_,_⟩:=o7 (hb g (mem_of_getElem? hg));have r1:=tO (x3 hf);have r2:=tO (x3 hg);have t22:=t22 (dG f) (dG g) f1 g1 f2 g2;have hp:pcL L k i=prT (dG f) (dG g):=by unfold pcL;rw[getD_eq_getElem?_getD,getD_eq_getElem?_getD,hf,hg];rfl
  rw[<- hp] at t22;have ih:=R9 hV hL hb T md i hi hO d (k+1) (by omega);rw[<- ih]
  conv=>lhs;rw[aA (L:=KB) rfl]
  have hy:=fun q1 q2=>LB (P:=fun k=>pcL L k i) (t:=T) (k:=k) q1 q2
  have hn:=fun q=>LC (P:=fun k=>pcL L k i) (t:=T) (k:=k) q
  try simp only[] at hy hn
  generalize bst (fun k=>pcL L k i) T (k+1)=B' at hy hn;generalize bst (fun k=>pcL L k i) T k=B at hy hn;generalize pcL L k i=p at hy hn t22;by_cases q1:T<=p
  ·by_cases q2:B.2 < p
   ·rw[hy q1 q2]
    simp only[go_sem,hs,hO,h4,h0,hi0,hw,r1,r2,t22,q1,q2,mtR]
   ·rw[hn (fun z=>q2 z.2)]
    simp only[go_sem,hs,hO,h4,h0,hi0,hw,r1,r2,t22,q1,q2,mtR]
  ·rw[hn (fun z=>q1 z.1)]
   simp only[go_sem,hs,hO,h4,h0,hi0,hw,r1,r2,t22,q1,mtR]
theorem R8 {V:AV} {sh:LL} {L:List (List Tk)} (hV:LV V sh L) (hL:L.length<=64) (hb:∀ f∈L,vld f=0) (T:Int) (md:Own):∀ (d i:Nat) (mo:Own),mo≠.no->i+d=L.length ->
  ∃ mo',aD G0 KA (ST [(1,.int .i64 T),(6,.sl md 1 (frs (iQ L))),(10,.sl mo 5 (mts (iZ (pcL L) T i))),(17,.bool false),(23,.bool false),(24,V),(25,.int .i64 L.length),(26,.int .i64 L.length),(27,.bool false),(42,.int .i64 L.length),(43,.int .i64 i)] [] sh)
  =some (.ex 2,ST [(1,.int .i64 T),(6,.sl md 1 (frs (iQ L))),(10,.sl mo' 5 (mts (iZ (pcL L) T L.length))),(17,.bool false),(23,.bool false),(24,V),(25,.int .i64 L.length),(26,.int .i64 L.length),(27,.bool false),(42,.int .i64 L.length),(43,.int .i64 L.length),(44,.bool false)] [] sh)
 | 0,i,mo,hm,h=>by
  have:i=L.length:=by omega
  subst this;have hs:=hV.scrub;refine⟨mo,?_⟩;rw[aA (L:=KA) rfl];simp only[go_sem,hs,Int.lt_irrefl]
 | d+1,i,mo,hm,h=>by
  have hs:=hV.scrub;have hi:i < L.length:=by omega
  have h4:(i:Int) < (L.length:Int):=by omega
  have h0:(0:Int)<=(i:Int):=by omega
  have hw:=wI (i:=i) (by omega)
  have ha:cG 40 ((iZ (pcL L) T i).length+1)=true:=bH (by decide) (by rw[pE];omega);obtain⟨mo',ih⟩:=R8 hV hL hb T md d (i+1) .own (by decide) (by omega);rw[L5,D7] at ih;refine⟨mo',?_⟩;rw[<- ih];have hin:=R9 (O:=.sl mo 5 (mts (iZ (pcL L) T i))) hV hL hb T md i hi (fun _=>rfl) i 0 (by omega);have ec:((0:Nat):Int)=0:=rfl;have e0:mtR (bst (fun k=>pcL L k i) T 0)=[.int .i64 (-1),.int .i64 0,.int .i64 0,.int .i64 0,.int .i64 0]:=rfl;rw[ec,e0] at hin;generalize bst (fun k=>pcL L k i) T i=B at hin ⊢;simp only[mtR] at hin
  conv=>lhs;rw[aA (L:=KA) rfl]
  simp only[go_sem,hs,h4,h0,hw,hin,WO,bV mo .full hm 5 40 (by decide),tC,ha,mtR]
def wV (L:List (List Tk)) (T:Int):List (Int × Int) × Int:=
 if 64 < L.length then ([],3) else if T < 1\/100 < T then ([],1) else if jW L=0 then (iZ (pcL L) T L.length,0) else ([],jW L)
theorem lS:mts []=[]:=rfl
theorem t8 {V:AV} {sh:LL} {L:List (List Tk)} (hV:LV V sh L) (hR:jX sh) (hb:∀ f∈L,pB f) (T:Int):G0 8 [V,.int .i64 T] sh=some (.tup [.sl .no 5 (mts (wV L T).1),.int .i64 (wV L T).2],sh):=by
 have hs:=hV.scrub;have hdv:=hV.dem;have hlen:=hV.len;have hRa:=hR.self;have htk:List.take sh.length sh=sh:=take_length;unfold wV;by_cases h1:64 < L.length
 ·have h1':(64:Int) < (L.length:Int):=by omega
  rw[if_pos h1];refine aB F8 rfl rfl rfl ?_;simp only[F8,go_sem,hs,hdv,hlen,h1',hRa,htk,lS]
 have h1':¬ (64:Int) < (L.length:Int):=by omega
 rw[if_neg h1];by_cases h2:T < 1
 ·rw[if_pos (.inl h2)]
  refine aB F8 rfl rfl rfl ?_;simp only[F8,go_sem,hs,hdv,hlen,h1',h2,hRa,htk,lS]
 by_cases h3:100 < T
 ·rw[if_pos (.inr h3)]
  refine aB F8 rfl rfl rfl ?_;simp only[F8,go_sem,hs,hdv,hlen,h1',h2,h3,hRa,htk,lS]
 rw[if_neg (by omega)];obtain⟨x1,x2⟩:=SA hV (by omega) hb T L.length 0 .full (by decide) (by omega);have ec:((0:Nat):Int)=0:=rfl;have ez:frs (iQ [])=[]:=rfl;rw[drop_zero,take_zero,ec,ez] at x1 x2;by_cases h4:jW L=0
 ·rw[if_pos h4]
  obtain⟨md',hm,x⟩:=x1 h4;obtain⟨mo',y⟩:=R8 hV (by omega) (AB h4) T md' L.length 0 .full (by decide) (by omega);have ey:mts (iZ (pcL L) T 0)=[]:=rfl;rw[ec,ey] at y;refine aB F8 rfl rfl rfl ?_;simp only[F8,go_sem,hs,hdv,hlen,h1',h2,h3,x,y,hRa,htk]
 ·rw[if_neg h4]
  obtain⟨l',x,x4,x5⟩:=x2 h4;refine aB F8 rfl rfl rfl ?_;simp only[F8,go_sem,hs,hdv,hlen,h1',h2,h3,x,x4,x5,hRa,htk,lS]
end Go.Av
