/- Numbers, words and lines that a fragment is made of; joining texts: exactly what 'nrm' says. A fragment that is made of numbers is valid. The length of a fragment; the tests of an item; the first error of a fragment. The tests of an item and the first error of a fragment: the program's and the reference's. -/
import Derived.Test.YtmjfblcmbcfkcaaGreatDoorG2XD
import Derived.Test.YtmjfblcmbcfkcaaGreatDoorG2XA
open List
set_option linter.unusedSimpArgs false
set_option linter.unusedVariables false
set_option linter.unusedSectionVars false
set_option maxRecDepth 100000
set_option maxHeartbeats 16000000
namespace Go.Av
open Go.Nt
set_option maxHeartbeats 8000000
abbrev Tk:=Int × List UInt8 × Int
def tkR (t:Tk):List AV:=[.int .i64 t.1,.str t.2.1,.int .i64 t.2.2]
def tks (l:List Tk):List (List AV):=l.map tkR
theorem aD (l:List Tk):(tks l).length=l.length:=by simp [tks]
theorem pH (x y:List Tk):tks x++tks y=tks (x++y):=by simp [tks]
theorem eB:tks []=[]:=rfl
theorem dH {l:List Tk} {i:Nat} {t:Tk} (h:l[i]?=some t):(tks l)[i]?=some [.int .i64 t.1,.str t.2.1,.int .i64 t.2.2]:=by simp [tks,tkR,h]
def cP (l:List (List UInt8)):List (List AV):=l.map fun s=>[.str s]
theorem dK (l:List (List UInt8)):(cP l).length=l.length:=by simp [cP]
theorem eW {l:List (List UInt8)} {i:Nat} {s:List UInt8} (h:l[i]?=some s):(cP l)[i]?=some [.str s]:=by simp [cP,h]
theorem yP (a b:Int) (hb:1<=b):(if a.tmod b < 0 then a.tmod b+b else a.tmod b)=a % b:=by
 have e:=Int.tmod_eq_emod (a:=a) (b:=b);have h1:=Int.emod_nonneg a (by omega:b≠0);have h2:=Int.emod_lt_of_pos a (by omega:0 < b);have hd:¬ (0<=a\/b ∣ a)->a % b≠0:=fun h h0=>h (.inr (Int.dvd_of_emod_eq_zero h0))
 by_cases h:0<=a\/b ∣ a
 ·rw[if_pos h] at e
  rw[e];rw[if_neg (by omega)];omega
 ·rw[if_neg h] at e
  have:=hd h
  rw[e];rw[if_pos (by omega)];omega
theorem O5 (a b:Int) (hb:1<=b):-b < a.tmod b/\a.tmod b < b:=by
 have:=yP a b hb
 have h1:=Int.emod_nonneg a (by omega:b≠0);have h2:=Int.emod_lt_of_pos a (by omega:0 < b);have h3:=Int.lt_tmod_of_pos a (by omega:0 < b);have h4:=Int.tmod_lt_of_pos a (by omega:0 < b);omega
theorem c18 (a b:Int) (hb:1<=b) (hb2:b<=1000000):G0 15 [.int .i64 a,.int .i64 b] []=some (.int .i64 (a % b),[]):=by
 refine aA F15 rfl rfl rfl ?_;have h0:¬ b=0:=by omega
 have h1:=O5 a b hb;rw[<- yP a b hb];simp only[F15,go_sem,h0];split
 ·rw[w64 (by omega) (by omega)]
 ·rfl
def bZ (l:List Int):List (List AV):=l.map fun x=>[.int .i64 x]
theorem bJ (l:List Int):(bZ l).length=l.length:=by simp [bZ]
theorem kV {l:List Int} {i:Nat} {x:Int} (h:l[i]?=some x):(bZ l)[i]?=some [.int .i64 x]:=by simp [bZ,h]
theorem M8:bZ []=[]:=rfl
def num (l:List Int) (n:Nat):List AV:=[.sl .no 1 (bZ l),.int .i64 n]
def nxt (l:List Int) (n:Nat) (m:Int):Int:=(if n < l.length then l.getD n 0 else 0) % m
theorem gY (l:List Int) (n:Nat) (m:Int) (h:1<=m):0<=nxt l n m/\nxt l n m < m:=⟨Int.emod_nonneg _ (by omega),Int.emod_lt_of_pos _ (by omega)⟩
theorem c41 (l:List Int) (n:Nat) (m:Int) (hn:n<=1000000) (h1:1<=m) (h2:m<=1000000):G0 27 [.ptr 0 0,.int .i64 m] [num l n]=some (.int .i64 (nxt l n m),[num l (n+1)]):=by
 refine aA F27 rfl rfl rfl ?_;have hw:IntKind.i64.wrap ((n:Int)+1)=((n+1:Nat):Int):=by rw[w64 (by omega) (by omega)];rfl
 have h0:(0:Int)<=(n:Int):=by omega
 have hnum:eY false 1 [[.sl .no 1 (bZ l),.int .i64 ((n+1:Nat):Int)]]=true:=rfl;by_cases h3:n < l.length
 ·have h4:(n:Int) < (l.length:Int):=by omega
  have hr:=kV (l:=l) (i:=n) (x:=l.getD n 0) (by simp [getD_eq_getElem?_getD,h3]);simp only[F27,go_sem,num,bJ,h4,h0,hr,hw,c18 _ m h1 h2,nxt,h3,hnum]
 ·have h4:¬ (n:Int) < (l.length:Int):=by omega
  simp only[F27,go_sem,num,bJ,h4,h0,hw,c18 _ m h1 h2,nxt,h3,hnum]
def wds:List (List UInt8):=[[114,101,100],[99,97,114],[82,101,100],[97],[99,97,114,115],[49,44,53],[50,50],[100,111,110,39,116],[46],[33],[32],[32,32],[60],[38],[123],[34],[92],[120,45,121],[10],[61],[125],[62],[9],[98]]
def wd (l:List Int) (n:Nat):List UInt8:=wds.getD (nxt l n 24).toNat []
theorem D7 (l:List Int) (n:Nat):(wd l n).length<=5:=by
 unfold wd
 have:∀ i,(wds.getD i []).length<=5:=by
  intro i;by_cases h:i < 24
  ·have:∀ j:Fin 24,(wds.getD j.1 []).length<=5:=by decide
   exact this ⟨i,h⟩
  ·rw[getD_eq_getElem?_getD,getElem?_eq_none (by simp [wds];omega)];simp
 exact this _
theorem c95 (l:List Int) (n:Nat) (hn:n<=1000000):G0 87 [.ptr 0 0] [num l n]=some (.str (wd l n),[num l (n+1)]):=by
 refine aA F87 rfl rfl rfl ?_;have hm:iE 1 [.str []] 24 [0,1,2,3,4,5,6,7,8,9,10,11,12,13,14,15,16,17,18,19,20,21,22,23] [.str [114,101,100],.str [99,97,114],.str [82,101,100],.str [97],.str [99,97,114,115],.str [49,44,53],.str [50,50],.str [100,111,110,39,116],.str [46],.str [33],.str [32],.str [32,32],.str [60],.str [38],.str [123],.str [34],.str [92],.str [120,45,121],.str [10],.str [61],.str [125],.str [62],.str [9],.str [98]]=some (.sl .full 1 (cP wds)):=by rfl
 have hb:=gY l n 24 (by omega);have h0:0<=nxt l n 24:=hb.1
 have hr:=eW (l:=wds) (i:=(nxt l n 24).toNat) (s:=wd l n) (by
  unfold wd
  rw[getD_eq_getElem?_getD,getElem?_eq_getElem (by simp [wds];omega)];rfl)
 have hnum:eY false 1 [num l (n+1)]=true:=rfl;simp only[F87,go_sem,hm,c41 l n 24 hn (by decide) (by decide),h0,hr,hnum]
def lnF (l:List Int):Nat->Nat->List UInt8->List UInt8 × Nat
 | 0,n,out=>(out,n)
 | i+1,n,out=>if out=[] then lnF l i (n+1) (out++wd l n) else lnF l i (n+2) ((if 0 < nxt l (n+1) 3 then out++[32] else out)++wd l n)
theorem l63 (l:List Int):∀ (k n:Nat) (out:List UInt8),n+2*k<=1000000->out.length+6*k<=1000000 ->
  aC G0 o8 (ST [(0,.ptr 0 0),(5,.str out),(6,.int .i64 k)] [] [num l n])=some (.ex 0,ST [(0,.ptr 0 0),(5,.str (lnF l k n out).1),(6,.int .i64 0),(13,.bool false)] [] [num l (lnF l k n out).2])
 | 0,n,out,h1,h2=>by
  rw[aB (L:=o8) rfl];simp only[go_sem,Int.lt_irrefl,lnF]
 | k+1,n,out,h1,h2=>by
  have hk:(0:Int) < ((k+1:Nat):Int):=by omega
  have hw:IntKind.i64.wrap (((k+1:Nat):Int) - 1)=(k:Int):=by rw[w64 (by omega) (by omega)];omega
  have hl:=D7 l n;by_cases h3:out=[]
  ·have ih:=l63 l k (n+1) (out++wd l n) (by omega) (by rw[length_append];omega)
   have hc:out.length+(wd l n).length<=140737488355328:=by omega
   subst h3;rw[aB (L:=o8) rfl];simp only[go_sem,hk,c95 l n (by omega),hc,hw,lnF];simp only[length_nil] at hc;simp only[go_sem] at ih;have hc':(wd l n).length<=140737488355328:=by omega
   simp only[go_sem,hc',ih]
  ·have hne:(out != [])=true:=by simp [h3]
   have h24:=c41 l (n+1) 3 (by omega) (by decide) (by decide);by_cases h4:0 < nxt l (n+1) 3
   ·have ih:=l63 l k (n+2) (out++[32]++wd l n) (by omega) (by simp only[length_append,length_cons,length_nil];omega)
    have hc:out.length+1<=140737488355328:=by omega
    have hc2:(out++[32]).length+(wd l n).length<=140737488355328:=by simp only[length_append,length_cons,length_nil];omega
    have e:lnF l (k+1) n out=lnF l k (n+2) (out++[32]++wd l n):=by simp only[lnF,h3,h4,if_true,if_false]
    rw[e,aB (L:=o8) rfl];simp only[go_sem,hk,c95 l n (by omega),hne,h24,h4,hc,hc2,hw];exact ih
   ·have ih:=l63 l k (n+2) (out++wd l n) (by omega) (by simp only[length_append];omega)
    have hc:out.length+(wd l n).length<=140737488355328:=by omega
    have e:lnF l (k+1) n out=lnF l k (n+2) (out++wd l n):=by simp only[lnF,h3,h4,if_true,if_false]
    rw[e,aB (L:=o8) rfl];simp only[go_sem,hk,c95 l n (by omega),hne,h24,h4,hc,hw];exact ih
def nK (l:List Int) (n:Nat) (m:Int):List UInt8 × Nat:=lnF l (nxt l n (m+1)).toNat (n+1) []
theorem c63 (l:List Int) (n:Nat) (m:Int) (hn:n<=900000) (h1:1<=m) (h2:m<=1000):G0 55 [.ptr 0 0,.int .i64 m] [num l n]=some (.str (nK l n m).1,[num l (nK l n m).2]):=by
 refine aA F55 rfl rfl rfl ?_;have hb:=gY l n (m+1) (by omega);have hx:=l63 l (nxt l n (m+1)).toNat (n+1) [] (by omega) (by simp only[length_nil];omega);have hc:(((nxt l n (m+1)).toNat:Nat):Int)=nxt l n (m+1):=by omega
 rw[hc] at hx;have hnum:∀ j,eY false 1 [num l j]=true:=fun _=>rfl
 simp only[F55,go_sem,w64 (n:=m+1) (by omega) (by omega),c41 l n (m+1) (by omega) (by omega) (by omega),hx,hnum,nK]
theorem vL (l:List Int):∀ (k n:Nat) (out:List UInt8),(lnF l k n out).1.length<=out.length+6*k
 | 0,n,out=>by simp [lnF]
 | k+1,n,out=>by
  have hl:=D7 l n;simp only[lnF];split
  ·have:=vL l k (n+1) (out++wd l n);rw[length_append] at this;omega
  ·have:=vL l k (n+2) ((if 0 < nxt l (n+1) 3 then out++[32] else out)++wd l n)
   rw[length_append] at this
   split at this
   ·rename_i h;rw[if_pos h];simp only[length_append,length_cons,length_nil] at *;omega
   ·rename_i h;rw[if_neg h];omega
def fl (l:List Tk):List AV:=(tks l).flatten
theorem lG (x y:List Tk):fl (x++y)=fl x++fl y:=by simp [fl,tks]
theorem BA (t:Tk):fl [t]=[.int .i64 t.1,.str t.2.1,.int .i64 t.2.2]:=rfl
theorem mY (t:Tk) (l:List Tk):fl (t :: l)=.int .i64 t.1 :: .str t.2.1 :: .int .i64 t.2.2 :: fl l:=rfl
theorem iR:∀ l:List Tk,(fl l).length=l.length*3
 | []=>rfl
 | t :: l=>by rw[mY];simp only[length_cons,iR l];omega
theorem mX:∀ l:List Tk,(fl l).all jF=true
 | []=>rfl
 | t :: l=>by rw[mY];simp only[all_cons,mX l,jF,Bool.and_self]
theorem oQ (l:List Tk):cR (fl l)=true:=by
 cases l with
 | nil=>rfl
 | cons a l=>rfl
theorem H3 (o:List Tk) (t:Tk) (j:Nat):(fl (o++[t]))[o.length*3+j]?=[AV.int .i64 t.1,.str t.2.1,.int .i64 t.2.2][j]?:=by
 rw[lG,BA,getElem?_append_right (by rw[iR];omega),iR]
 congr 1;omega
theorem NM (o:List Tk) (t u:Tk):lC (o.length*3) [AV.int .i64 u.1,.str u.2.1,.int .i64 u.2.2] (fl (o++[t]))=some (fl (o++[u])):=by
 have:∀ (a:List AV),lC a.length [AV.int .i64 u.1,.str u.2.1,.int .i64 u.2.2] (a++[AV.int .i64 t.1,.str t.2.1,.int .i64 t.2.2])=some (a++[AV.int .i64 u.1,.str u.2.1,.int .i64 u.2.2]):=by
  intro a
  induction a with
  | nil=>rfl
  | cons x a ih=>simp only[length_cons,cons_append,LU,ih,Option.map_some]
 have h:=this (fl o);rw[iR] at h;rw[lG,BA,lG,BA];exact h
theorem wH (l:List Tk):dD 0 l.length 3 (fl l)=some (tks l):=by
 have h1:∀ l:List Tk,(fl l).all (fun x=>cD (aI x))=true:=by
  intro l
  induction l with
  | nil=>rfl
  | cons a l ih=>rw[mY];simp only[all_cons,Bool.and_eq_true];exact⟨rfl,rfl,rfl,ih⟩
 have h2:∀ l:List Tk,(fl l).map aI=fl l:=by
  intro l
  induction l with
  | nil=>rfl
  | cons a l ih=>rw[mY];simp only[map_cons,ih,aI]
 have h3:∀ l:List Tk,dV 3 l.length (fl l)=tks l:=by
  intro l
  induction l with
  | nil=>rfl
  | cons a l ih=>rw[mY];simp only[length_cons,dV,take_succ_cons,take_zero,drop_succ_cons,drop_zero,ih];rfl
 unfold dD;have h4:((fl l).drop 0).take (l.length*3)=fl l:=by rw[drop_zero];exact take_of_length_le (by rw[iR];exact Nat.le_refl _)
 rw[h4,h2,h3,if_pos ⟨by decide,by rw[iR];omega,h1 l⟩]
def tot (l:List Tk):Nat:=(l.map fun t=>t.2.1.length).sum
theorem cO:tot []=0:=rfl
theorem bH (t:Tk) (l:List Tk):tot (t :: l)=t.2.1.length+tot l:=by simp [tot]
theorem dR (x y:List Tk):tot (x++y)=tot x+tot y:=by simp [tot]
theorem jU (f:List It) (x:It):tot (pn f x)<=tot f+x.2.1.length/\(pn f x).length<=f.length+1:=by
 refine⟨?_,(WT f x).2⟩;unfold pn;by_cases h:x.1=1
 ·rw[if_pos h]
  split
  ·omega
  ·rcases iY (f:=f) (x:=(1,x.2.1,0)) rfl with ⟨_,h2⟩ | ⟨g,y,rfl,hy,h2⟩
   ·rw[h2,dR];simp [tot]
   ·rw[h2,dR,dR];simp [tot];omega
 ·rw[if_neg h,dR];simp [tot]
def Stt (v:AV) (sh:LL) (out:List Tk):Prop:=
 (out=[]/\v=.sl .full 3 []/\sh=[])\/(∃ D o t,out=o++[t]/\v=.ss D.length 0 (o.length+1) 3/\sh=D++[fl (o++[t])])
theorem gD (D:LL) (c:List AV):(D++[c])[D.length]?=some c:=by simp
theorem sD (D:LL) (c x:List AV):(D++[c]).set D.length x=D++[x]:=by
 rw[set_append_right _ _ (Nat.le_refl _)];simp
theorem CI {f:List It} {i:Int}:pn f (1,[],i)=f:=rfl
theorem L4 {f:List It} {k:Int} {s:Bs} {i:Int} (h:¬ k=1):pn f (k,s,i)=f++[(k,s,i)]:=by unfold pn;rw[if_neg h]
theorem CH {s:Bs} {i:Int} (h:s≠[]):pn [] (1,s,i)=[(1,s,0)]:=by simp [pn,h,Nt.put]
theorem GR {o:List It} {t:It} {s:Bs} {i:Int} (h:s≠[]) (ht:t.1=1):pn (o++[t]) (1,s,i)=o++[(1,t.2.1++s,0)]:=by simp [pn,h,Nt.put,ht]
theorem L5 {o:List It} {t:It} {s:Bs} {i:Int} (h:s≠[]) (ht:¬ t.1=1):pn (o++[t]) (1,s,i)=o++[t]++[(1,s,0)]:=by simp [pn,h,Nt.put,ht]
theorem l57 (f:List Tk) (hf:f.length<=100000):∀ (k i:Nat) (out:List Tk) (v:AV) (sh:LL),i+k=f.length->out.length<=i->tot out+tot (f.drop i)<=1000000->Stt v sh out ->
  ∃ v' sh',Stt v' sh' ((f.drop i).foldl pn out) /\
   aC G0 o7 (ST [(0,.sl .no 3 (tks f)),(3,v),(8,.int .i64 f.length),(9,.int .i64 i)] [] sh)=some (.ex 0,ST [(0,.sl .no 3 (tks f)),(3,v'),(8,.int .i64 f.length),(9,.int .i64 f.length),(10,.bool false)] [] sh')
 | 0,i,out,v,sh,h1,h2,h3,hst=>by
  have:i=f.length:=by omega
  subst this;refine⟨v,sh,by rw[drop_of_length_le (Nat.le_refl _)];exact hst,?_⟩;rcases hst with ⟨rfl,rfl,rfl⟩ | ⟨D,o,t,rfl,rfl,rfl⟩
  ·rw[aB (L:=o7) rfl]
   simp only[go_sem,Int.lt_irrefl]
  ·rw[aB (L:=o7) rfl]
   simp only[go_sem,Int.lt_irrefl]
 | k+1,i,out,v,sh,h1,h2,h3,hst=>by
  have hi:i < f.length:=by omega
  have h4:(i:Int) < (f.length:Int):=by omega
  have h0:(0:Int)<=(i:Int):=by omega
  have hw:=wI (i:=i) (by omega)
  have hg:f[i]?=some f[i]:=getElem?_eq_getElem hi;have hd:f.drop i=f[i] :: f.drop (i+1):=drop_eq_getElem_cons hi;generalize f[i]=T at hg hd;have hr:=dH hg;obtain⟨kk,s,id⟩:=T;rw[hd] at h3 ⊢;rw[bH] at h3;simp only[foldl_cons];simp only[] at h3;by_cases c1:kk=1
  ·by_cases c2:s=[]
   ·subst c1 c2
    rw[CI];obtain⟨v',sh',p1,p4⟩:=l57 f hf k (i+1) out v sh (by omega) (by omega) (by simp only[length_nil] at h3;omega) hst;refine⟨v',sh',p1,?_⟩;rcases hst with ⟨rfl,rfl,rfl⟩ | ⟨D,o,t,rfl,rfl,rfl⟩
    ·rw[aB (L:=o7) rfl]
     simp only[go_sem,h4,h0,hr,hw];exact p4
    ·rw[aB (L:=o7) rfl]
     simp only[go_sem,h4,h0,hr,hw];exact p4
   ·subst c1
    have hne:(s == [])=false:=by simp [c2]
    rcases hst with ⟨rfl,rfl,rfl⟩ | ⟨D,o,t,rfl,rfl,rfl⟩
    ·rw[CH c2]
     obtain⟨v',sh',p1,p4⟩:=l57 f hf k (i+1) [(1,s,0)] (.ss 0 0 1 3) [fl [(1,s,0)]] (by omega) (by simp) (by simp only[bH,cO] at *;first | done | omega) (.inr ⟨[],[],(1,s,0),rfl,rfl,rfl⟩);refine⟨v',sh',p1,?_⟩;have ha:cU 32 1=true:=bU (by decide) (by decide);rw[aB (L:=o7) rfl];simp only[go_sem,h4,h0,hr,hw,hne,ha,Int.lt_irrefl];exact p4
    ·have hpos:(0:Int) < ((o.length+1:Nat):Int):=by omega
     have hlt:((o.length:Nat):Int) < ((o.length+1:Nat):Int):=by omega
     have hge:(0:Int)<=((o.length:Nat):Int):=by omega
     have hw3:IntKind.i64.wrap (((o.length+1:Nat):Int) - 1)=((o.length:Nat):Int):=by rw[w64 (by omega) (by simp at h2;omega)];omega
     have hat0:(fl (o++[t]))[o.length*3]?=some (.int .i64 t.1):=H3 o t 0;have hat1:(fl (o++[t]))[o.length*3+1]?=some (.str t.2.1):=H3 o t 1;by_cases c3:t.1=1
     ·rw[GR c2 c3]
      have hc:t.2.1.length+s.length<=140737488355328:=by simp only[dR,bH,cO] at h3;omega
      have hb:=oQ (o++[t]);have hp:lC (o.length*3) [.int .i64 1,.str (t.2.1++s),.int .i64 0] (fl (o++[t]))=some (fl (o++[(1,t.2.1++s,0)])):=NM o t (1,t.2.1++s,0);obtain⟨v',sh',p1,p4⟩:=l57 f hf k (i+1) (o++[(1,t.2.1++s,0)]) (.ss D.length 0 (o.length+1) 3) (D++[fl (o++[(1,t.2.1++s,0)])]) (by omega) (by simp at h2 ⊢;omega) (by simp only[dR,bH,cO,length_append] at *;omega) (.inr ⟨D,o,_,rfl,rfl,rfl⟩);refine⟨v',sh',p1,?_⟩;rw[aB (L:=o7) rfl];simp only[go_sem,h4,h0,hr,hw,hne,hpos,hlt,hge,hw3,gD,sD,hat0,hat1,c3,Nat.add_zero,hc,hb,hp];exact p4
     ·rw[L5 c2 c3]
      have h6:(o.length+1)*3=(fl (o++[t])).length:=by rw[iR];simp
      have ha:cU 32 (o.length+1+1)=true:=bU (by decide) (by simp at h2;omega);have hb:=oQ (o++[t]);have hn:=mX (o++[t]);have e6:fl (o++[t])++[[AV.int .i64 1,.str s,.int .i64 0]].flatten=fl (o++[t]++[(1,s,0)]):=by rw[lG (o++[t])];rfl
      have eL:(D++[fl (o++[t])]).length=(D++[aZ]).length:=by simp
      obtain⟨v',sh',p1,p4⟩:=l57 f hf k (i+1) (o++[t]++[(1,s,0)]) (.ss (D++[aZ]).length 0 (o.length+1+1) 3) ((D++[aZ])++[fl (o++[t]++[(1,s,0)])]) (by omega) (by simp at h2 ⊢;omega) (by simp only[dR,bH,cO] at *;omega) (.inr ⟨D++[aZ],o++[t],(1,s,0),rfl,by simp,rfl⟩);refine⟨v',sh',p1,?_⟩;rw[aB (L:=o7) rfl];simp only[go_sem,h4,h0,hr,hw,hne,hpos,hlt,hge,hw3,gD,sD,hat0,hat1,c3,Nat.add_zero,ha,hb,hn,h6,eL];rw[e6];exact p4
  ·rw[L4 c1]
   rcases hst with ⟨rfl,rfl,rfl⟩ | ⟨D,o,t,rfl,rfl,rfl⟩
   ·rw[nil_append]
    obtain⟨v',sh',p1,p4⟩:=l57 f hf k (i+1) [(kk,s,id)] (.ss 0 0 1 3) [fl [(kk,s,id)]] (by omega) (by simp) (by simp only[bH,cO] at *;first | done | omega) (.inr ⟨[],[],(kk,s,id),rfl,rfl,rfl⟩);refine⟨v',sh',p1,?_⟩;have ha:cU 32 1=true:=bU (by decide) (by decide);rw[aB (L:=o7) rfl];simp only[go_sem,h4,h0,hr,hw,c1,ha];exact p4
   ·have h6:(o.length+1)*3=(fl (o++[t])).length:=by rw[iR];simp
    have ha:cU 32 (o.length+1+1)=true:=bU (by decide) (by simp at h2;omega);have hb:=oQ (o++[t]);have hn:=mX (o++[t]);have e6:fl (o++[t])++[[AV.int .i64 kk,.str s,.int .i64 id]].flatten=fl (o++[t]++[(kk,s,id)]):=by rw[lG (o++[t])];rfl
    have eL:(D++[fl (o++[t])]).length=(D++[aZ]).length:=by simp
    obtain⟨v',sh',p1,p4⟩:=l57 f hf k (i+1) (o++[t]++[(kk,s,id)]) (.ss (D++[aZ]).length 0 (o.length+1+1) 3) ((D++[aZ])++[fl (o++[t]++[(kk,s,id)])]) (by omega) (by simp at h2 ⊢;omega) (by simp only[dR,bH,cO] at *;omega) (.inr ⟨D++[aZ],o++[t],(kk,s,id),rfl,by simp,rfl⟩);refine⟨v',sh',p1,?_⟩;rw[aB (L:=o7) rfl];simp only[go_sem,h4,h0,hr,hw,c1,gD,sD,ha,hb,hn,h6,eL];rw[e6];exact p4
theorem c57 (f:List Tk) (hf:f.length<=100000) (ht:tot f<=1000000):G0 88 [.sl .no 3 (tks f)] []=some (.sl .no 3 (tks (nrm f)),[]):=by
 obtain⟨v,sh,p1,p4⟩:=l57 f hf f.length 0 [] (.sl .full 3 []) [] (by omega) (by simp) (by rw[drop_zero,cO];omega) (.inl ⟨rfl,rfl,rfl⟩);rw[drop_zero] at p1;have p1:Stt v sh (nrm f):=p1;generalize nrm f=g at p1 ⊢;refine aA F88 rfl rfl rfl ?_;simp only[go_sem] at p4;rcases p1 with ⟨rfl,rfl,rfl⟩ | ⟨D,o,t,rfl,rfl,rfl⟩
 ·simp only[F88,go_sem,aD,p4,eB]
 ·have hr:=wH (o++[t])
  simp only[length_append,length_cons,length_nil,Nat.zero_add] at hr;have hs:eP [] (D++[fl (o++[t])])=true:=rfl;have hk:eY false 0 (D++[fl (o++[t])])=true:=rfl;simp only[F88,go_sem,aD,p4,gD,hr,hs,hk,Nat.zero_le]
theorem c37 (f g:List Tk) (hf:f.length+g.length<=100000) (ht:tot f+tot g<=1000000):G0 57 [.sl .no 3 (tks f),.sl .no 3 (tks g)] []=some (.sl .no 3 (tks (nrm (f++g))),[]):=by
 have q3:=c57 (f++g) (by simpa using hf) (by rw[dR];exact ht);refine aA F57 rfl rfl rfl ?_;have ha:cU 32 f.length=true:=bU (by decide) (by omega);have ha2:cU 32 (f.length+g.length)=true:=bU (by decide) (by omega);simp only[F57,go_sem,dP .full .no (by decide) 3 32 (by decide),dP .own .no (by decide) 3 32 (by decide),aD,ha,ha2,pH,q3]
theorem N6 {f:List Tk} (hv:VL f) (x:Tk) (hf:f.length<=10000) (ht:tot f+x.2.1.length<=100000):G0 57 [.sl .no 3 (tks f),.sl .no 3 [[.int .i64 x.1,.str x.2.1,.int .i64 x.2.2]]] []=some (.sl .no 3 (tks (pn f x)),[]):=by
 have:=c37 f [x] (by simp only[length_cons,length_nil];omega) (by rw[bH,cO];omega)
 rw[CN hv] at this;exact this
end Go.Av
namespace Go.Av
open Go.Nt
set_option maxHeartbeats 8000000
theorem HA (l:List Int):∀ (k n:Nat) (out:List UInt8),(lnF l k n out).2<=n+2*k
 | 0,n,out=>by simp [lnF]
 | k+1,n,out=>by
  simp only[lnF];split
  ·have:=HA l k (n+1) (out++wd l n);omega
  ·have:=HA l k (n+2) ((if 0 < nxt l (n+1) 3 then out++[32] else out)++wd l n);omega
theorem zDQ (l:List Int) (n:Nat):(nK l n 3).1.length<=18/\(nK l n 3).2<=n+10:=by
 have hb:=gY l n 4 (by omega);have h1:=vL l (nxt l n 4).toNat (n+1) [];have h2:=HA l (nxt l n 4).toNat (n+1) [];simp only[length_nil] at h1;show (lnF l (nxt l n 4).toNat (n+1) []).1.length<=18/\(lnF l (nxt l n 4).toNat (n+1) []).2<=n+10;omega
def tbA:List (List UInt8):=[[110],[110,97,109,101],[120,49]]
def tbB:List (List UInt8):=[[98,114],[105,109,103,32,97]]
def tbC:List (List UInt8):=[[98],[105],[97,32,104,61,49]]
theorem KQ (tb:List (List UInt8)) (hl:∀ i,(tb.getD i []).length<=5) (l:List Int) (n:Nat) (m:Int) (hm:1<=m) (h:m=(tb.length:Int)):∃ x:List UInt8,x∈tb/\x.length<=5/\(cP tb)[(nxt l n m).toNat]?=some [.str x]/\0<=nxt l n m:=by
 have hb:=gY l n m hm;refine⟨tb.getD (nxt l n m).toNat [],?_,hl _,?_,hb.1⟩
 ·rw[getD_eq_getElem?_getD,getElem?_eq_getElem (by omega)];exact getElem_mem _
 apply eW;rw[getD_eq_getElem?_getD,getElem?_eq_getElem (by omega)];rfl
theorem tbA5:∀ i,(tbA.getD i []).length<=5
 | 0=>by decide
 | 1=>by decide
 | 2=>by decide
 | i+3=>by simp [tbA]
theorem tbB5:∀ i,(tbB.getD i []).length<=5
 | 0=>by decide
 | 1=>by decide
 | i+2=>by simp [tbB]
theorem tbC5:∀ i,(tbC.getD i []).length<=5
 | 0=>by decide
 | 1=>by decide
 | 2=>by decide
 | i+3=>by simp [tbC]
theorem VN:∀ x∈tbA,cW x=true:=by decide
theorem zBO:∀ x∈tbB,isC x=true:=by decide
theorem zBN:∀ x∈tbC,isC x=true:=by decide
theorem rP {l:List Tk} {j:Nat} {t:Tk} (h:l[j]?=some t):l=l.take j++t :: l.drop (j+1):=by
 have hj:j < l.length:=by
  by_cases q:j < l.length
  ·exact q
  ·rw[getElem?_eq_none (by omega)] at h;cases h
 rw[getElem?_eq_getElem hj] at h;simp only[Option.some.injEq] at h
 conv=>lhs;rw[<- take_append_drop j l,drop_eq_getElem_cons hj,h]
theorem EY:∀ f:List Tk,len f<=tot f+f.length
 | []=>by simp [len,tot]
 | t :: f=>by
  have ih:=EY f;have e:len (t :: f)=wid t+len f:=by simp [len]
  have hw:wid t<=t.2.1.length+1:=by unfold wid;split<;>omega
  rw[e,bH,length_cons];omega
theorem mA:iE 1 [.str []] 3 [0,1,2] [.str [110],.str [110,97,109,101],.str [120,49]]=some (.sl .full 1 (cP tbA)):=by rfl
theorem mB:iE 1 [.str []] 2 [0,1] [.str [98,114],.str [105,109,103,32,97]]=some (.sl .full 1 (cP tbB)):=by rfl
theorem mC:iE 1 [.str []] 3 [0,1,2] [.str [98],.str [105],.str [97,32,104,61,49]]=some (.sl .full 1 (cP tbC)):=by rfl
theorem qY (l:List Int) (n:Nat):eY false 1 [num l n]=true:=rfl
end Go.Av
namespace Go.Av
open Go.Nt
set_option maxHeartbeats 8000000
theorem sL (t:Tk) (f:List Tk):len (t :: f)=wid t+len f:=by simp [len]
theorem HE:len []=0:=rfl
abbrev gK:Nat:=140737488355328
theorem l67 (f:List Tk) (hl:f.length<=10000) (hb:∀ t∈f,t.2.1.length<=gK):∀ (k i n:Nat),i+k=f.length->n<=i*gK ->
  aC G0 BW (ST [(3,.int .i64 n),(6,.sl .no 3 (tks f)),(7,.int .i64 f.length),(8,.int .i64 i)] [] [])=some (.ex 0,ST [(3,.int .i64 ((n+len (f.drop i):Nat):Int)),(6,.sl .no 3 (tks f)),(7,.int .i64 f.length),(8,.int .i64 f.length),(9,.bool false)] [] [])
 | 0,i,n,h,hn=>by
  have:i=f.length:=by omega
  subst this;rw[aB (L:=BW) rfl];simp only[go_sem,Int.lt_irrefl,drop_length,HE,Nat.add_zero]
 | k+1,i,n,h,hn=>by
  have hi:i < f.length:=by omega
  have h4:(i:Int) < (f.length:Int):=by omega
  have h0:(0:Int)<=(i:Int):=by omega
  have hw:=wI (i:=i) (by omega)
  have hg:f[i]?=some f[i]:=getElem?_eq_getElem hi;have hd:f.drop i=f[i] :: f.drop (i+1):=drop_eq_getElem_cons hi;have hm:=hb _ (getElem_mem hi);generalize f[i]=T at hg hd hm;have hr:=dH hg;obtain⟨kk,s,id⟩:=T;simp only[] at hm hr;have c96:=c96 kk s id;have hwd:wid (kk,s,id)<=s.length+1:=by unfold wid;split<;>(first | omega | (simp only[];omega))
  have hwd2:wid (kk,s,id)<=gK:=by unfold wid gK;split<;>(first | omega | (simp only[];omega))
  rw[hd,sL];generalize wid (kk,s,id)=w at *;simp only[gK] at *;have hw2:IntKind.i64.wrap ((n:Int)+(w:Int))=((n+w:Nat):Int):=by rw[w64 (by omega) (by omega)];rfl
  have ih:=l67 f hl hb k (i+1) (n+w) (by omega) (by simp only[gK];omega);rw[aB (L:=BW) rfl];simp only[go_sem,h4,h0,hr,hw,c96,hw2];rw[Nat.add_assoc] at ih;exact ih
theorem c67 (f:List Tk) (hl:f.length<=10000) (hb:∀ t∈f,t.2.1.length<=gK):G0 113 [.sl .no 3 (tks f)] []=some (.int .i64 (len f:Nat),[]):=by
 refine aA ZC rfl rfl rfl ?_;have x:=l67 f hl hb f.length 0 0 (by omega) (by omega);have ec:((0:Nat):Int)=0:=rfl;rw[ec] at x;simp only[Nat.zero_add,drop_zero] at x;simp only[ZC,go_sem,aD,x]
theorem l15 (f:List Tk) (hl:f.length<=10000) (hb:∀ t∈f,t.2.1.length<=gK):∀ (k i n:Nat),i+k=f.length->n<=i*gK ->
  aC G0 yF (ST [(0,.sl .no 3 (tks f)),(3,.int .i64 n),(6,.int .i64 f.length),(7,.int .i64 i)] [] [])=some (.ex 0,ST [(0,.sl .no 3 (tks f)),(3,.int .i64 ((n+len (f.drop i):Nat):Int)),(6,.int .i64 f.length),(7,.int .i64 f.length),(8,.bool false)] [] [])
 | 0,i,n,h,hn=>by
  have:i=f.length:=by omega
  subst this;rw[aB (L:=yF) rfl];simp only[go_sem,Int.lt_irrefl,drop_length,HE,Nat.add_zero]
 | k+1,i,n,h,hn=>by
  have hi:i < f.length:=by omega
  have h4:(i:Int) < (f.length:Int):=by omega
  have h0:(0:Int)<=(i:Int):=by omega
  have hw:=wI (i:=i) (by omega)
  have hg:f[i]?=some f[i]:=getElem?_eq_getElem hi;have hd:f.drop i=f[i] :: f.drop (i+1):=drop_eq_getElem_cons hi;have hm:=hb _ (getElem_mem hi);generalize f[i]=T at hg hd hm;have hr:=dH hg;obtain⟨kk,s,id⟩:=T;simp only[] at hm hr;rw[hd,sL];simp only[gK] at *;by_cases hk:kk=1
  ·subst hk
   have e:wid (1,s,id)=s.length:=rfl;have hw2:IntKind.i64.wrap ((n:Int)+(s.length:Int))=((n+s.length:Nat):Int):=by rw[w64 (by omega) (by omega)];rfl
   have ih:=l15 f hl hb k (i+1) (n+s.length) (by omega) (by simp only[gK];omega);rw[aB (L:=yF) rfl,e];simp only[go_sem,h4,h0,hr,hw,hw2];rw[Nat.add_assoc] at ih;exact ih
  ·have e:wid (kk,s,id)=1:=by unfold wid;rw[if_neg hk]
   have hw2:IntKind.i64.wrap ((n:Int)+1)=((n+1:Nat):Int):=by rw[w64 (by omega) (by omega)];rfl
   have ih:=l15 f hl hb k (i+1) (n+1) (by omega) (by simp only[gK];omega);rw[aB (L:=yF) rfl,e];simp only[go_sem,h4,h0,hr,hw,hk,hw2];rw[Nat.add_assoc] at ih;exact ih
theorem c15 (f:List Tk) (hl:f.length<=10000) (hb:∀ t∈f,t.2.1.length<=gK):G0 109 [.sl .no 3 (tks f)] []=some (.int .i64 (len f:Nat),[]):=by
 refine aA ZD rfl rfl rfl ?_;have x:=l15 f hl hb f.length 0 0 (by omega) (by omega);have ec:((0:Nat):Int)=0:=rfl;rw[ec] at x;simp only[Nat.zero_add,drop_zero] at x;simp only[ZD,go_sem,aD,x]
theorem l70 (B:List Tk) (hl:B.length<=1000000) (hb:∀ t∈B,t.1=2->t.2.1.length<=1000000) (k0:Int) (s0:Bs) (i0:Int):∀ (k i:Nat),i+k=B.length ->
  ((B.drop i).any (dJ (k0,s0,i0))=false->aC G0 lL (ST [(3,.loc 3 0),(7,.sl .no 3 (tks B)),(8,.int .i64 B.length),(9,.int .i64 i)] [(3,some [.int .i64 k0,.str s0,.int .i64 i0])] [])=some (.ex 0,ST [(3,.loc 3 0),(7,.sl .no 3 (tks B)),(8,.int .i64 B.length),(9,.int .i64 B.length),(10,.bool false)] [(3,some [.int .i64 k0,.str s0,.int .i64 i0])] [])) /\
  ((B.drop i).any (dJ (k0,s0,i0))=true->∃ l' m',aC G0 lL (ST [(3,.loc 3 0),(7,.sl .no 3 (tks B)),(8,.int .i64 B.length),(9,.int .i64 i)] [(3,some [.int .i64 k0,.str s0,.int .i64 i0])] [])=some (.ret,ST l' m' [])/\aE .any l' 4=.bool false)
 | 0,i,h=>by
  have:i=B.length:=by omega
  subst this;refine⟨fun _=>?_,fun h=>(by simp at h)⟩;rw[aB (L:=lL) rfl];simp only[go_sem,Int.lt_irrefl]
 | k+1,i,h=>by
  have hi:i < B.length:=by omega
  have h4:(i:Int) < (B.length:Int):=by omega
  have h0:(0:Int)<=(i:Int):=by omega
  have hw:=wI (i:=i) (by omega)
  have hg:B[i]?=some B[i]:=getElem?_eq_getElem hi;have hd:B.drop i=B[i] :: B.drop (i+1):=drop_eq_getElem_cons hi;have hm:=hb _ (getElem_mem hi);generalize B[i]=T at hg hd hm;have hr:=dH hg;obtain⟨kk,s,id⟩:=T;simp only[] at hm hr;have c69:=c69 kk s id;have ih:=l70 B hl hb k0 s0 i0 k (i+1) (by omega);rw[hd,any_cons];have ec:dJ (k0,s0,i0) (kk,s,id)=(bD (kk,s,id) && decide (id=i0) && !(decide (k0=3) && decide (kk=2) && (aT s == s0))):=rfl;have step:dJ (k0,s0,i0) (kk,s,id)=false->aC G0 lL (ST [(3,.loc 3 0),(7,.sl .no 3 (tks B)),(8,.int .i64 B.length),(9,.int .i64 i)] [(3,some [.int .i64 k0,.str s0,.int .i64 i0])] [])=aC G0 lL (ST [(3,.loc 3 0),(7,.sl .no 3 (tks B)),(8,.int .i64 B.length),(9,.int .i64 ((i+1:Nat):Int))] [(3,some [.int .i64 k0,.str s0,.int .i64 i0])] []):=by
   intro hc;rw[ec] at hc
   conv=>lhs;rw[aB (L:=lL) rfl]
   cases ht:bD (kk,s,id) with
   | false =>
    rw[ht] at c69;simp only[go_sem,h4,h0,hr,hw,c69]
   | true =>
    rw[ht] at c69 hc;by_cases h1:id=i0
    ·subst h1
     simp only[decide_true,Bool.true_and,Bool.not_eq_false',Bool.and_eq_true,decide_eq_true_eq,beq_iff_eq] at hc;obtain⟨⟨rfl,rfl⟩,h3⟩:=hc;have c98:=c98 s (hm rfl);rw[h3] at c98;have e:(s0 != s0)=false:=by simp
     simp only[go_sem,h4,h0,hr,hw,c69,c98,e]
    ·simp only[go_sem,h4,h0,hr,hw,c69,h1]
  cases hc:dJ (k0,s0,i0) (kk,s,id) with
  | false =>
   rw[step hc,Bool.false_or];exact ih
  | true =>
   rw[Bool.true_or];refine⟨fun q=>(by cases q),fun _=>?_⟩;rw[ec] at hc;simp only[Bool.and_eq_true,decide_eq_true_eq,Bool.not_eq_true'] at hc;obtain⟨⟨ht,rfl⟩,hx⟩:=hc;rw[ht] at c69;by_cases h1:k0=3
   ·subst h1
    by_cases h2:kk=2
    ·subst h2
     have c98:=c98 s (hm rfl);simp only[decide_true,Bool.true_and,beq_eq_false_iff_ne] at hx;have e:(aT s != s0)=true:=by simp [hx]
     refine Exists.intro ?_ (Exists.intro ?_ (And.intro ?_ ?_))
     rotate_left 2
     ·rw[aB (L:=lL) rfl]
      simp only[go_sem,h4,h0,hr,hw,c69,c98,e];rfl
     ·rfl
    ·refine Exists.intro ?_ (Exists.intro ?_ (And.intro ?_ ?_))
     rotate_left 2
     ·rw[aB (L:=lL) rfl]
      simp only[go_sem,h4,h0,hr,hw,c69,h2];rfl
     ·rfl
   ·refine Exists.intro ?_ (Exists.intro ?_ (And.intro ?_ ?_))
    rotate_left 2
    ·rw[aB (L:=lL) rfl]
     simp only[go_sem,h4,h0,hr,hw,c69,h1];rfl
    ·rfl
theorem c70 (B:List Tk) (hl:B.length<=1000000) (hb:∀ t∈B,t.1=2->t.2.1.length<=1000000) (k0:Int) (s0:Bs) (i0:Int):G0 116 [.sl .no 3 (tks B),.agg [.int .i64 k0,.str s0,.int .i64 i0]] []=some (.bool (sO B (k0,s0,i0)),[]):=by
 refine aA TL rfl rfl rfl ?_;obtain⟨x1,x2⟩:=l70 B hl hb k0 s0 i0 B.length 0 (by omega);have ec:((0:Nat):Int)=0:=rfl;rw[drop_zero,ec] at x1 x2;unfold sO;cases h:B.any (dJ (k0,s0,i0)) with
 | false=>simp only[TL,go_sem,aD,x1 h]
 | true =>
  obtain⟨l',m',y1,y2⟩:=x2 h;simp only[TL,go_sem,aD,y1,y2]
end Go.Av
namespace Go.Av
open Go.Nt
set_option maxHeartbeats 8000000
theorem E0 {f:List Tk} {i:Nat} {y:Tk} (h:f[i]?=some y):iO (f.take (i+1))=y.1:=by
 have hi:i < f.length:=by
  by_cases q:i < f.length
  ·exact q
  ·rw[getElem?_eq_none (by omega)] at h;cases h
 rw[getElem?_eq_getElem hi] at h;simp only[Option.some.injEq] at h;rw[take_succ_eq_append_getElem hi,h,fB]
theorem sF {s:Bs} (h:s≠[]):(s != ([]:Bs))=true:=by simp [h]
theorem sQ {s:Bs} (h:s≠[]):(s == ([]:Bs))=false:=by simp [h]
theorem c68 (f:List Tk) (hl:f.length<=1000000) (i:Nat) (k:Int) (s:Bs) (id:Int) (hi:f[i]?=some (k,s,id)):G0 114 [.sl .no 3 (tks f),.int .i64 i] []=some (.bool (wfB (f.take i) (k,s,id)),[]):=by
 refine aA nJ rfl rfl rfl ?_;have h0:(0:Int)<=(i:Int):=by omega
 have hlt:i < f.length:=by
  by_cases q:i < f.length
  ·exact q
  ·rw[getElem?_eq_none (by omega)] at hi;cases hi
 have hr:=dH hi;simp only[] at hr;have z0:((([]:Bs) != ([]:Bs))=false):=rfl;by_cases k1:k=1
 ·subst k1
  by_cases h1:s=[]
  ·subst h1
   have e:wfB (f.take i) (1,[],id)=false:=rfl;rw[e];simp only[nJ,go_sem,h0,hr,z0]
  by_cases h2:id=0
  ·subst h2
   cases i with
   | zero =>
    have e:wfB (f.take 0) (1,s,0)=true:=by simp [wfB,h1,iO]
    rw[e];have hz:((0:Nat):Int)=0:=rfl;rw[hz] at *;have hr:(tks f)[0]?=some [.int .i64 1,.str s,.int .i64 0]:=hr;simp only[nJ,go_sem,h0,hr,sF h1]
   | succ j =>
    have hg:f[j]?=some f[j]:=getElem?_eq_getElem (by omega);generalize f[j]=Y at hg;have hr2:=dH hg;have hK:=E0 hg;have n0:¬ ((j+1:Nat):Int)=0:=by omega
    have w1:IntKind.i64.wrap (((j+1:Nat):Int) - 1)=(j:Int):=by rw[w64 (by omega) (by omega)];omega
    have j0:(0:Int)<=(j:Int):=by omega
    by_cases h3:Y.1=1
    ·have e:wfB (f.take (j+1)) (1,s,0)=false:=by simp [wfB,hK,h3]
     rw[e];simp only[nJ,go_sem,h0,hr,sF h1,n0,w1,j0,hr2,h3]
    ·have e:wfB (f.take (j+1)) (1,s,0)=true:=by simp [wfB,hK,h3,h1]
     rw[e];simp only[nJ,go_sem,h0,hr,sF h1,n0,w1,j0,hr2,h3]
  ·have e:wfB (f.take i) (1,s,id)=false:=by simp [wfB,h2]
   rw[e];simp only[nJ,go_sem,h0,hr,sF h1,h2]
 by_cases k5:k=5
 ·subst k5
  have e:wfB (f.take i) (5,s,id)=(cW s && decide (id=0)):=rfl;rw[e];have h83:=c83 s;cases hn:cW s with
  | false =>
   rw[hn] at h83;simp only[nJ,go_sem,h0,hr,h83,Bool.false_and]
  | true =>
   rw[hn] at h83;by_cases h2:id=0
   ·simp only[nJ,go_sem,h0,hr,h83,h2,Bool.true_and,decide_true]
   ·simp only[nJ,go_sem,h0,hr,h83,h2,Bool.true_and,decide_false]
 by_cases k2:k=2\/k=4
 ·have e:wfB (f.take i) (k,s,id)=(isC s && (decide (1<=id) && decide (id<=999))):=by rcases k2 with rfl | rfl<;>rfl
  rw[e];have h97:=c97 s;rcases k2 with rfl | rfl
  all_goals
   cases hn:isC s with
   | false =>
    rw[hn] at h97;simp only[nJ,go_sem,h0,hr,h97,Bool.false_and]
   | true =>
    rw[hn] at h97;by_cases h2:1<=id
    ·by_cases h3:id<=999
     ·simp only[nJ,go_sem,h0,hr,h97,h2,h3,Bool.true_and,decide_true]
     ·simp only[nJ,go_sem,h0,hr,h97,h2,h3,Bool.true_and,decide_true,decide_false]
    ·simp only[nJ,go_sem,h0,hr,h97,h2,Bool.true_and,decide_false,Bool.false_and]
 have k2':¬ k=2:=fun q=>k2 (.inl q)
 have k4':¬ k=4:=fun q=>k2 (.inr q)
 by_cases k3:k=3
 ·subst k3
  have e:wfB (f.take i) (3,s,id)=(cW s && (decide (1<=id) && decide (id<=999))):=rfl;rw[e];have h83:=c83 s;cases hn:cW s with
  | false =>
   rw[hn] at h83;simp only[nJ,go_sem,h0,hr,h83,Bool.false_and]
  | true =>
   rw[hn] at h83;by_cases h2:1<=id
   ·by_cases h3:id<=999
    ·simp only[nJ,go_sem,h0,hr,h83,h2,h3,Bool.true_and,decide_true]
    ·simp only[nJ,go_sem,h0,hr,h83,h2,h3,Bool.true_and,decide_true,decide_false]
   ·simp only[nJ,go_sem,h0,hr,h83,h2,Bool.true_and,decide_false,Bool.false_and]
 ·have e:wfB (f.take i) (k,s,id)=false:=by simp [wfB,k1,k5,k2',k4',k3]
  rw[e];simp only[nJ,go_sem,h0,hr,k1,k5,k2',k4',k3]
theorem l48a (B:List Tk) (hl:B.length<=1000000) (hb:∀ t∈B,t.1=2->t.2.1.length<=1000000) (k0:Int) (s0:Bs) (i0:Int):∀ (k i:Nat),i+k=B.length ->
  ((B.drop i).any (dJ (k0,s0,i0))=false->aC G0 fD (ST [(0,.sl .no 3 (tks B)),(3,.loc 3 0),(8,.int .i64 k0),(9,.bool false),(34,.bool false),(45,.bool true),(61,.bool false),(79,.int .i64 B.length),(80,.int .i64 i)] [(3,some [.int .i64 k0,.str s0,.int .i64 i0])] [])=some (.ex 1,ST [(0,.sl .no 3 (tks B)),(3,.loc 3 0),(8,.int .i64 k0),(9,.bool false),(34,.bool false),(45,.bool true),(61,.bool false),(79,.int .i64 B.length),(80,.int .i64 B.length),(81,.bool false)] [(3,some [.int .i64 k0,.str s0,.int .i64 i0])] [])) /\
  ((B.drop i).any (dJ (k0,s0,i0))=true->∃ l' m',aC G0 fD (ST [(0,.sl .no 3 (tks B)),(3,.loc 3 0),(8,.int .i64 k0),(9,.bool false),(34,.bool false),(45,.bool true),(61,.bool false),(79,.int .i64 B.length),(80,.int .i64 i)] [(3,some [.int .i64 k0,.str s0,.int .i64 i0])] [])=some (.ret,ST l' m' [])/\aE .any l' 4=.int .i64 7)
 | 0,i,h=>by
  have:i=B.length:=by omega
  subst this;refine⟨fun _=>?_,fun h=>(by simp at h)⟩;rw[aB (L:=fD) rfl];simp only[go_sem,Int.lt_irrefl]
 | k+1,i,h=>by
  have hi:i < B.length:=by omega
  have h4:(i:Int) < (B.length:Int):=by omega
  have h0:(0:Int)<=(i:Int):=by omega
  have hw:=wI (i:=i) (by omega)
  have hg:B[i]?=some B[i]:=getElem?_eq_getElem hi;have hd:B.drop i=B[i] :: B.drop (i+1):=drop_eq_getElem_cons hi;have hm:=hb _ (getElem_mem hi);generalize B[i]=T at hg hd hm;have hr:=dH hg;obtain⟨kk,s,id⟩:=T;simp only[] at hm hr;have c65:=c65 kk s id;have ih:=l48a B hl hb k0 s0 i0 k (i+1) (by omega);rw[hd,any_cons];have ec:dJ (k0,s0,i0) (kk,s,id)=(bD (kk,s,id) && decide (id=i0) && !(decide (k0=3) && decide (kk=2) && (aT s == s0))):=rfl;have step:dJ (k0,s0,i0) (kk,s,id)=false->aC G0 fD (ST [(0,.sl .no 3 (tks B)),(3,.loc 3 0),(8,.int .i64 k0),(9,.bool false),(34,.bool false),(45,.bool true),(61,.bool false),(79,.int .i64 B.length),(80,.int .i64 i)] [(3,some [.int .i64 k0,.str s0,.int .i64 i0])] [])=aC G0 fD (ST [(0,.sl .no 3 (tks B)),(3,.loc 3 0),(8,.int .i64 k0),(9,.bool false),(34,.bool false),(45,.bool true),(61,.bool false),(79,.int .i64 B.length),(80,.int .i64 ((i+1:Nat):Int))] [(3,some [.int .i64 k0,.str s0,.int .i64 i0])] []):=by
   intro hc;rw[ec] at hc
   conv=>lhs;rw[aB (L:=fD) rfl]
   cases ht:bD (kk,s,id) with
   | false =>
    rw[ht] at c65;simp only[go_sem,h4,h0,hr,hw,c65]
   | true =>
    rw[ht] at c65 hc;by_cases h1:id=i0
    ·subst h1
     simp only[decide_true,Bool.true_and,Bool.not_eq_false',Bool.and_eq_true,decide_eq_true_eq,beq_iff_eq] at hc;obtain⟨⟨rfl,rfl⟩,h3⟩:=hc;have c64:=c64 s (hm rfl);rw[h3] at c64;have e:(s0 != s0)=false:=by simp
     simp only[go_sem,h4,h0,hr,hw,c65,c64,e]
    ·simp only[go_sem,h4,h0,hr,hw,c65,h1]
  cases hc:dJ (k0,s0,i0) (kk,s,id) with
  | false =>
   rw[step hc,Bool.false_or];exact ih
  | true =>
   rw[Bool.true_or];refine⟨fun q=>(by cases q),fun _=>?_⟩;rw[ec] at hc;simp only[Bool.and_eq_true,decide_eq_true_eq,Bool.not_eq_true'] at hc;obtain⟨⟨ht,rfl⟩,hx⟩:=hc;rw[ht] at c65;by_cases h1:k0=3
   ·subst h1
    by_cases h2:kk=2
    ·subst h2
     have c64:=c64 s (hm rfl);simp only[decide_true,Bool.true_and,beq_eq_false_iff_ne] at hx;have e:(aT s != s0)=true:=by simp [hx]
     refine Exists.intro ?_ (Exists.intro ?_ (And.intro ?_ ?_))
     rotate_left 2
     ·rw[aB (L:=fD) rfl]
      simp only[go_sem,h4,h0,hr,hw,c65,c64,e];rfl
     ·rfl
    ·refine Exists.intro ?_ (Exists.intro ?_ (And.intro ?_ ?_))
     rotate_left 2
     ·rw[aB (L:=fD) rfl]
      simp only[go_sem,h4,h0,hr,hw,c65,h2];rfl
     ·rfl
   ·refine Exists.intro ?_ (Exists.intro ?_ (And.intro ?_ ?_))
    rotate_left 2
    ·rw[aB (L:=fD) rfl]
     simp only[go_sem,h4,h0,hr,hw,c65,h1];rfl
    ·rfl
theorem l48b (B:List Tk) (hl:B.length<=1000000) (hb:∀ t∈B,t.1=2->t.2.1.length<=1000000) (k0:Int) (s0:Bs) (i0:Int):∀ (k i:Nat),i+k=B.length ->
  ((B.drop i).any (dJ (k0,s0,i0))=false->aC G0 fD (ST [(0,.sl .no 3 (tks B)),(3,.loc 3 0),(9,.bool false),(34,.bool false),(45,.bool false),(62,.bool true),(77,.bool false),(79,.int .i64 B.length),(80,.int .i64 i)] [(3,some [.int .i64 k0,.str s0,.int .i64 i0])] [])=some (.ex 1,ST [(0,.sl .no 3 (tks B)),(3,.loc 3 0),(9,.bool false),(34,.bool false),(45,.bool false),(62,.bool true),(77,.bool false),(79,.int .i64 B.length),(80,.int .i64 B.length),(81,.bool false)] [(3,some [.int .i64 k0,.str s0,.int .i64 i0])] [])) /\
  ((B.drop i).any (dJ (k0,s0,i0))=true->∃ l' m',aC G0 fD (ST [(0,.sl .no 3 (tks B)),(3,.loc 3 0),(9,.bool false),(34,.bool false),(45,.bool false),(62,.bool true),(77,.bool false),(79,.int .i64 B.length),(80,.int .i64 i)] [(3,some [.int .i64 k0,.str s0,.int .i64 i0])] [])=some (.ret,ST l' m' [])/\aE .any l' 4=.int .i64 7)
 | 0,i,h=>by
  have:i=B.length:=by omega
  subst this;refine⟨fun _=>?_,fun h=>(by simp at h)⟩;rw[aB (L:=fD) rfl];simp only[go_sem,Int.lt_irrefl]
 | k+1,i,h=>by
  have hi:i < B.length:=by omega
  have h4:(i:Int) < (B.length:Int):=by omega
  have h0:(0:Int)<=(i:Int):=by omega
  have hw:=wI (i:=i) (by omega)
  have hg:B[i]?=some B[i]:=getElem?_eq_getElem hi;have hd:B.drop i=B[i] :: B.drop (i+1):=drop_eq_getElem_cons hi;have hm:=hb _ (getElem_mem hi);generalize B[i]=T at hg hd hm;have hr:=dH hg;obtain⟨kk,s,id⟩:=T;simp only[] at hm hr;have c65:=c65 kk s id;have ih:=l48b B hl hb k0 s0 i0 k (i+1) (by omega);rw[hd,any_cons];have ec:dJ (k0,s0,i0) (kk,s,id)=(bD (kk,s,id) && decide (id=i0) && !(decide (k0=3) && decide (kk=2) && (aT s == s0))):=rfl;have step:dJ (k0,s0,i0) (kk,s,id)=false->aC G0 fD (ST [(0,.sl .no 3 (tks B)),(3,.loc 3 0),(9,.bool false),(34,.bool false),(45,.bool false),(62,.bool true),(77,.bool false),(79,.int .i64 B.length),(80,.int .i64 i)] [(3,some [.int .i64 k0,.str s0,.int .i64 i0])] [])=aC G0 fD (ST [(0,.sl .no 3 (tks B)),(3,.loc 3 0),(9,.bool false),(34,.bool false),(45,.bool false),(62,.bool true),(77,.bool false),(79,.int .i64 B.length),(80,.int .i64 ((i+1:Nat):Int))] [(3,some [.int .i64 k0,.str s0,.int .i64 i0])] []):=by
   intro hc;rw[ec] at hc
   conv=>lhs;rw[aB (L:=fD) rfl]
   cases ht:bD (kk,s,id) with
   | false =>
    rw[ht] at c65;simp only[go_sem,h4,h0,hr,hw,c65]
   | true =>
    rw[ht] at c65 hc;by_cases h1:id=i0
    ·subst h1
     simp only[decide_true,Bool.true_and,Bool.not_eq_false',Bool.and_eq_true,decide_eq_true_eq,beq_iff_eq] at hc;obtain⟨⟨rfl,rfl⟩,h3⟩:=hc;have c64:=c64 s (hm rfl);rw[h3] at c64;have e:(s0 != s0)=false:=by simp
     simp only[go_sem,h4,h0,hr,hw,c65,c64,e]
    ·simp only[go_sem,h4,h0,hr,hw,c65,h1]
  cases hc:dJ (k0,s0,i0) (kk,s,id) with
  | false =>
   rw[step hc,Bool.false_or];exact ih
  | true =>
   rw[Bool.true_or];refine⟨fun q=>(by cases q),fun _=>?_⟩;rw[ec] at hc;simp only[Bool.and_eq_true,decide_eq_true_eq,Bool.not_eq_true'] at hc;obtain⟨⟨ht,rfl⟩,hx⟩:=hc;rw[ht] at c65;by_cases h1:k0=3
   ·subst h1
    by_cases h2:kk=2
    ·subst h2
     have c64:=c64 s (hm rfl);simp only[decide_true,Bool.true_and,beq_eq_false_iff_ne] at hx;have e:(aT s != s0)=true:=by simp [hx]
     refine Exists.intro ?_ (Exists.intro ?_ (And.intro ?_ ?_))
     rotate_left 2
     ·rw[aB (L:=fD) rfl]
      simp only[go_sem,h4,h0,hr,hw,c65,c64,e];rfl
     ·rfl
    ·refine Exists.intro ?_ (Exists.intro ?_ (And.intro ?_ ?_))
     rotate_left 2
     ·rw[aB (L:=fD) rfl]
      simp only[go_sem,h4,h0,hr,hw,c65,h2];rfl
     ·rfl
   ·refine Exists.intro ?_ (Exists.intro ?_ (And.intro ?_ ?_))
    rotate_left 2
    ·rw[aB (L:=fD) rfl]
     simp only[go_sem,h4,h0,hr,hw,c65,h1];rfl
    ·rfl
theorem c48 (B:List Tk) (hl:B.length<=1000000) (hb:∀ t∈B,t.1=2->t.2.1.length<=1000000) (k:Int) (s:Bs) (id:Int):G0 110 [.sl .no 3 (tks B),.agg [.int .i64 k,.str s,.int .i64 id]] []=some (.int .i64 (chk B (k,s,id)),[]):=by
 refine aA jC rfl rfl rfl ?_;have z0:((([]:Bs) == ([]:Bs))=true):=rfl;have ec:((0:Nat):Int)=0:=rfl;by_cases k1:k=1
 ·subst k1
  by_cases h1:s=[]
  ·subst h1
   have e:chk B (1,[],id)=1:=by simp [chk]
   rw[e];simp only[jC,go_sem,z0]
  by_cases h2:id=0
  ·subst h2
   rcases fQ B with rfl | ⟨A,Y,rfl⟩
   ·have e:chk [] (1,s,0)=0:=by simp [chk,h1,iO]
    rw[e];simp only[jC,go_sem,sQ h1,eB,Int.lt_irrefl]
   ·have hll:((tks (A++[Y])).length:Int)=((A.length+1:Nat):Int):=by rw[aD];simp
    have p0:(0:Int) < ((A.length+1:Nat):Int):=by omega
    have hl2:A.length<=1000000:=by simp at hl;omega
    have w1:IntKind.i64.wrap (((A.length+1:Nat):Int) - 1)=(A.length:Int):=by rw[w64 (by omega) (by omega)];omega
    have hg:(A++[Y])[A.length]?=some Y:=by simp
    have hr:=dH hg;have hK:=fB A Y;have j0:(0:Int)<=(A.length:Int):=by omega
    by_cases h3:Y.1=1
    ·have e:chk (A++[Y]) (1,s,0)=1:=by simp [chk,hK,h3]
     rw[e];simp only[jC,go_sem,sQ h1,hll,p0,w1,j0,hr,h3]
    ·have e:chk (A++[Y]) (1,s,0)=0:=by simp [chk,hK,h3,h1]
     rw[e];simp only[jC,go_sem,sQ h1,hll,p0,w1,j0,hr,h3]
  ·have e:chk B (1,s,id)=1:=by simp [chk,h2]
   rw[e];simp only[jC,go_sem,sQ h1,h2]
 by_cases k5:k=5
 ·subst k5
  have h74:=c74 s;cases hn:cW s with
  | false =>
   rw[hn] at h74;have e:chk B (5,s,id)=1:=by simp [chk,hn]
   rw[e];simp only[jC,go_sem,h74]
  | true =>
   rw[hn] at h74;by_cases h2:id=0
   ·have e:chk B (5,s,id)=0:=by simp [chk,hn,h2]
    rw[e];simp only[jC,go_sem,h74,h2]
   ·have e:chk B (5,s,id)=1:=by simp [chk,hn,h2]
    rw[e];simp only[jC,go_sem,h74,h2]
 by_cases k2:k=2\/k=4
 ·have h75:=c75 s
  obtain⟨x1,x2⟩:=l48a B hl hb k s id B.length 0 (by omega);rw[drop_zero,ec] at x1 x2;cases hn:isC s with
  | false =>
   rw[hn] at h75;have e:chk B (k,s,id)=1:=by rcases k2 with rfl | rfl<;>simp [chk,hn]
   rw[e];rcases k2 with rfl | rfl
   ·simp only[jC,go_sem,h75]
   ·simp only[jC,go_sem,h75]
  | true =>
   rw[hn] at h75;by_cases h2:id < 1
   ·have e:chk B (k,s,id)=1:=by rcases k2 with rfl | rfl<;>(simp [chk,hn];omega)
    rw[e];rcases k2 with rfl | rfl
    ·simp only[jC,go_sem,h75,h2]
    ·simp only[jC,go_sem,h75,h2]
   ·by_cases h3:999 < id
    ·have e:chk B (k,s,id)=1:=by rcases k2 with rfl | rfl<;>(simp [chk,hn];omega)
     rw[e];rcases k2 with rfl | rfl
     ·simp only[jC,go_sem,h75,h2,h3]
     ·simp only[jC,go_sem,h75,h2,h3]
    ·have q1:1<=id:=by omega
     have q2:id<=999:=by omega
     have e:chk B (k,s,id)=mM B (k,s,id):=by rcases k2 with rfl | rfl<;>simp [chk,hn,q1,q2]
     rw[e];unfold mM;cases ha:B.any (dJ (k,s,id)) with
     | false =>
      have y:=x1 ha;rcases k2 with rfl | rfl
      ·simp only[jC,go_sem,h75,h2,h3,aD,y]
      ·simp only[jC,go_sem,h75,h2,h3,aD,y]
     | true =>
      obtain⟨l',m',y1,y2⟩:=x2 ha;rcases k2 with rfl | rfl
      ·simp only[jC,go_sem,h75,h2,h3,aD,y1,y2]
      ·simp only[jC,go_sem,h75,h2,h3,aD,y1,y2]
 have k2':¬ k=2:=fun q=>k2 (.inl q)
 have k4':¬ k=4:=fun q=>k2 (.inr q)
 by_cases k3:k=3
 ·subst k3
  have h74:=c74 s;obtain⟨x1,x2⟩:=l48b B hl hb 3 s id B.length 0 (by omega);rw[drop_zero,ec] at x1 x2;cases hn:cW s with
  | false =>
   rw[hn] at h74;have e:chk B (3,s,id)=1:=by simp [chk,hn]
   rw[e];simp only[jC,go_sem,h74]
  | true =>
   rw[hn] at h74;by_cases h2:id < 1
   ·have e:chk B (3,s,id)=1:=by simp [chk,hn];omega
    rw[e];simp only[jC,go_sem,h74,h2]
   ·by_cases h3:999 < id
    ·have e:chk B (3,s,id)=1:=by simp [chk,hn];omega
     rw[e];simp only[jC,go_sem,h74,h2,h3]
    ·have q1:1<=id:=by omega
     have q2:id<=999:=by omega
     have e:chk B (3,s,id)=mM B (3,s,id):=by simp [chk,hn,q1,q2]
     rw[e];unfold mM;cases ha:B.any (dJ (3,s,id)) with
     | false =>
      have y:=x1 ha;simp only[jC,go_sem,h74,h2,h3,aD,y]
     | true =>
      obtain⟨l',m',y1,y2⟩:=x2 ha;simp only[jC,go_sem,h74,h2,h3,aD,y1,y2]
 ·have e:chk B (k,s,id)=1:=by simp [chk,k1,k5,k2',k4',k3]
  rw[e];simp only[jC,go_sem,k1,k5,k2',k4',k3]
theorem SM {f:List Tk} {x:Tk} (h:chk f x=0) (hx:x.1=2):x.2.1.length<=1000000:=by
 obtain⟨k,s,i⟩:=x;simp only[] at hx;subst hx;have hc:isC s=true:=by
  cases q:isC s with
  | true=>rfl
  | false=>simp [chk,q] at h
 unfold isC at hc;simp only[Bool.and_eq_true,decide_eq_true_eq] at hc
 have:=hc.1.1.1.1
 simp only[];omega
theorem BU {f:List Tk} (h:VL f):∀ t∈f,t.1=2->t.2.1.length<=1000000:=by
 suffices ∀ (n:Nat) (f:List Tk),f.length=n->VL f->∀ t∈f,t.1=2->t.2.1.length<=1000000 from this _ f rfl h
 intro n
 induction n with
 | zero=>intro f hf _ t ht;rw[eq_nil_of_length_eq_zero hf] at ht;cases ht
 | succ n ih =>
  intro f hf hv t ht h2;rcases fQ f with rfl | ⟨g,y,rfl⟩
  ·cases ht
  ·obtain⟨a,b⟩:=(cJ g y).1 hv
   rcases mem_append.1 ht with q | q
   ·exact ih g (by simp at hf;exact hf) a t q h2
   ·simp only[mem_singleton] at q;subst q;exact SM b h2
theorem tM {f:List Tk} {i:Nat} {t:Tk} (h:f[i]?=some t):f.take (i+1)=f.take i++[t]:=by
 have hi:i < f.length:=by
  by_cases q:i < f.length
  ·exact q
  ·rw[getElem?_eq_none (by omega)] at h;cases h
 rw[getElem?_eq_getElem hi] at h;simp only[Option.some.injEq] at h;rw[take_succ_eq_append_getElem hi,h]
theorem zM {f:List Tk} {i:Nat} {t:Tk} (h:f[i]?=some t):fK (f.take i) (f.drop i)=if chk (f.take i) t≠0 then chk (f.take i) t else fK (f.take (i+1)) (f.drop (i+1)):=by
 have hi:i < f.length:=by
  by_cases q:i < f.length
  ·exact q
  ·rw[getElem?_eq_none (by omega)] at h;cases h
 have hd:f.drop i=f[i] :: f.drop (i+1):=drop_eq_getElem_cons hi;rw[tM h];rw[getElem?_eq_getElem hi] at h;simp only[Option.some.injEq] at h;rw[hd,h];rfl
theorem BT {f:List Tk} {i:Nat} {t:Tk} (h:f[i]?=some t) (hv:VL (f.take i)) (hc:chk (f.take i) t=0):VL (f.take (i+1)):=by
 rw[tM h];exact (cJ _ _).2 ⟨hv,hc⟩
theorem KM (f:List Tk) (i:Nat):(tks f).take i=tks (f.take i):=by simp [tks,map_take]
theorem F9 (f:List Tk) (i:Nat) (hi:i<=f.length):bO false 3 (.sl .no 3 (tks f)) none (some (.int .i64 (i:Int)))=some (.sl .no 3 (tks (f.take i))):=by
 unfold bO dZ zC;have h0:(0:Int)<=(i:Int):=by omega
 have h1:(0:Nat)<=i/\i<=(tks f).length/\((3:Nat)=3\/tks f=[]):=⟨by omega,by rw[aD];exact hi,.inl rfl⟩
 simp only[h0,if_true,Int.toNat_natCast];rw[if_pos ⟨h1.1,h1.2.1,.inl trivial⟩,drop_zero,KM]
theorem l46 (f:List Tk) (hl:f.length<=1000000):∀ (k i:Nat),i+k=f.length->VL (f.take i) ->
  (fK (f.take i) (f.drop i)=0->∃ l' m',aC G0 nO (ST [(0,.sl .no 3 (tks f)),(12,.bool false),(13,.sl .no 3 (tks f)),(14,.int .i64 f.length),(15,.int .i64 i)] [] [])=some (.ex 0,ST l' m' [])) /\
  (fK (f.take i) (f.drop i)≠0->∃ l' m',aC G0 nO (ST [(0,.sl .no 3 (tks f)),(12,.bool false),(13,.sl .no 3 (tks f)),(14,.int .i64 f.length),(15,.int .i64 i)] [] [])=some (.ret,ST l' m' [])/\aE .any l' 2=.int .i64 (fK (f.take i) (f.drop i)))
 | 0,i,h,hv=>by
  have:i=f.length:=by omega
  subst this;refine⟨fun _=>?_,fun h=>(by simp [fK] at h)⟩;refine Exists.intro ?_ (Exists.intro ?_ ?_)
  rotate_left 2
  rw[aB (L:=nO) rfl];simp only[go_sem,Int.lt_irrefl];rfl
 | k+1,i,h,hv=>by
  have hi:i < f.length:=by omega
  have h4:(i:Int) < (f.length:Int):=by omega
  have h0:(0:Int)<=(i:Int):=by omega
  have hw:=wI (i:=i) (by omega)
  have hg:f[i]?=some f[i]:=getElem?_eq_getElem hi;generalize f[i]=T at hg;have hr:=dH hg;obtain⟨kk,s,id⟩:=T;simp only[] at hr;have c68:=c68 f hl i kk s id hg;have c69:=c69 kk s id;have c70:=c70 (f.take i) (by simp;omega) (BU hv) kk s id;have hsl:=F9 f i (by omega);have ih:=fun hv=>l46 f hl k (i+1) (by omega) hv
  rw[zM hg];rw[pZ] at *;cases hwf:wfB (f.take i) (kk,s,id) with
  | false =>
   rw[hwf] at c68;simp only[Bool.false_eq_true,if_false];refine⟨fun q=>(by simp at q),fun _=>?_⟩;refine Exists.intro ?_ (Exists.intro ?_ (And.intro ?_ ?_))
   rotate_left 2
   ·rw[aB (L:=nO) rfl]
    simp only[go_sem,h4,h0,hr,hw,c68];rfl
   ·rfl
  | true =>
   rw[hwf] at c68;cases hT:bD (kk,s,id) with
   | false =>
    rw[hT] at c69;have h00:chk (f.take i) (kk,s,id)=0:=by rw[pZ,hwf,hT];rfl
    simp only[if_true,Bool.false_eq_true,if_false,ne_eq,not_true_eq_false];have step:aC G0 nO (ST [(0,.sl .no 3 (tks f)),(12,.bool false),(13,.sl .no 3 (tks f)),(14,.int .i64 f.length),(15,.int .i64 i)] [] [])=aC G0 nO (ST [(0,.sl .no 3 (tks f)),(12,.bool false),(13,.sl .no 3 (tks f)),(14,.int .i64 f.length),(15,.int .i64 ((i+1:Nat):Int))] [] []):=by
     conv=>lhs;rw[aB (L:=nO) rfl]
     simp only[go_sem,h4,h0,hr,hw,c68,c69]
    rw[step];exact ih (BT hg hv h00)
   | true =>
    rw[hT] at c69;cases hF:sO (f.take i) (kk,s,id) with
    | true =>
     rw[hF] at c70;have h00:chk (f.take i) (kk,s,id)=0:=by rw[pZ,hwf,hT,hF];rfl
     simp only[if_true,Bool.false_eq_true,if_false,ne_eq,not_true_eq_false];have step:aC G0 nO (ST [(0,.sl .no 3 (tks f)),(12,.bool false),(13,.sl .no 3 (tks f)),(14,.int .i64 f.length),(15,.int .i64 i)] [] [])=aC G0 nO (ST [(0,.sl .no 3 (tks f)),(12,.bool false),(13,.sl .no 3 (tks f)),(14,.int .i64 f.length),(15,.int .i64 ((i+1:Nat):Int))] [] []):=by
      conv=>lhs;rw[aB (L:=nO) rfl]
      simp only[go_sem,h4,h0,hr,hw,c68,c69,hsl,c70]
     rw[step];exact ih (BT hg hv h00)
    | false =>
     rw[hF] at c70;simp only[if_true,Bool.false_eq_true,if_false,ne_eq];refine⟨fun q=>(by simp at q),fun _=>?_⟩;refine Exists.intro ?_ (Exists.intro ?_ (And.intro ?_ ?_))
     rotate_left 2
     ·rw[aB (L:=nO) rfl]
      simp only[go_sem,h4,h0,hr,hw,c68,c69,hsl,c70];rfl
     ·rfl
theorem c46 (f:List Tk) (hl:f.length<=1000000) (hb:∀ t∈f,t.2.1.length<=gK):G0 91 [.sl .no 3 (tks f)] []=some (.int .i64 (vld f),[]):=by
 refine aA F91 rfl rfl rfl ?_;unfold vld;by_cases h1:512 < f.length
 ·have h1':(512:Int) < (f.length:Int):=by omega
  rw[if_pos (.inl h1)];simp only[F91,go_sem,aD,h1']
 have h1':¬ (512:Int) < (f.length:Int):=by omega
 have c67:=c67 f (by omega) hb;by_cases h2:1024 < len f
 ·have h2':(1024:Int) < (len f:Int):=by omega
  rw[if_pos (.inr h2)];simp only[F91,go_sem,aD,h1',c67,h2']
 have h2':¬ (1024:Int) < (len f:Int):=by omega
 rw[if_neg (by omega)];obtain⟨x1,x2⟩:=l46 f hl f.length 0 (by omega) rfl;have ec:((0:Nat):Int)=0:=rfl;rw[drop_zero,take_zero,ec] at x1 x2;by_cases h:fK [] f=0
 ·obtain⟨l',m',y⟩:=x1 h
  rw[h];simp only[F91,go_sem,aD,h1',c67,h2',y,fF,gF,not_mem_nil,if_true,if_false]
 ·obtain⟨l',m',y1,y2⟩:=x2 h
  simp only[F91,go_sem,aD,h1',c67,h2',y1,y2]
theorem l21 (f:List Tk) (hl:f.length<=1000000):∀ (k i:Nat),i+k=f.length->VL (f.take i) ->
  (fK (f.take i) (f.drop i)=0->∃ l' m',aC G0 uS (ST [(0,.sl .no 3 (tks f)),(12,.bool false),(14,.int .i64 f.length),(15,.int .i64 i)] [] [])=some (.ex 0,ST l' m' [])) /\
  (fK (f.take i) (f.drop i)≠0->∃ l' m',aC G0 uS (ST [(0,.sl .no 3 (tks f)),(12,.bool false),(14,.int .i64 f.length),(15,.int .i64 i)] [] [])=some (.ret,ST l' m' [])/\aE .any l' 2=.int .i64 (fK (f.take i) (f.drop i)))
 | 0,i,h,hv=>by
  have:i=f.length:=by omega
  subst this;refine⟨fun _=>?_,fun h=>(by simp [fK] at h)⟩;refine Exists.intro ?_ (Exists.intro ?_ ?_)
  rotate_left 2
  rw[aB (L:=uS) rfl];simp only[go_sem,Int.lt_irrefl];rfl
 | k+1,i,h,hv=>by
  have hi:i < f.length:=by omega
  have h4:(i:Int) < (f.length:Int):=by omega
  have h0:(0:Int)<=(i:Int):=by omega
  have hw:=wI (i:=i) (by omega)
  have hg:f[i]?=some f[i]:=getElem?_eq_getElem hi;generalize f[i]=T at hg;have hr:=dH hg;obtain⟨kk,s,id⟩:=T;simp only[] at hr;have c48:=c48 (f.take i) (by simp;omega) (BU hv) kk s id;have hsl:=F9 f i (by omega);have ih:=fun hv=>l21 f hl k (i+1) (by omega) hv
  rw[zM hg];by_cases hc:chk (f.take i) (kk,s,id)=0
  ·simp only[hc,ne_eq,not_true_eq_false,if_false]
   have step:aC G0 uS (ST [(0,.sl .no 3 (tks f)),(12,.bool false),(14,.int .i64 f.length),(15,.int .i64 i)] [] [])=aC G0 uS (ST [(0,.sl .no 3 (tks f)),(12,.bool false),(14,.int .i64 f.length),(15,.int .i64 ((i+1:Nat):Int))] [] []):=by
    conv=>lhs;rw[aB (L:=uS) rfl]
    rw[hc] at c48;simp only[go_sem,h4,h0,hr,hw,hsl,c48]
   rw[step];exact ih (BT hg hv hc)
  ·rw[if_pos hc]
   refine⟨fun q=>absurd q hc,fun _=>?_⟩;refine Exists.intro ?_ (Exists.intro ?_ (And.intro ?_ ?_))
   rotate_left 2
   ·rw[aB (L:=uS) rfl]
    simp only[go_sem,h4,h0,hr,hw,hsl,c48,hc];rfl
   ·rfl
theorem c21 (f:List Tk) (hl:f.length<=1000000) (hb:∀ t∈f,t.2.1.length<=gK):G0 84 [.sl .no 3 (tks f)] []=some (.int .i64 (vld f),[]):=by
 refine aA F84 rfl rfl rfl ?_;unfold vld;by_cases h1:512 < f.length
 ·have h1':(512:Int) < (f.length:Int):=by omega
  rw[if_pos (.inl h1)];simp only[F84,go_sem,aD,h1']
 have h1':¬ (512:Int) < (f.length:Int):=by omega
 have c15:=c15 f (by omega) hb;by_cases h2:1024 < len f
 ·have h2':(1024:Int) < (len f:Int):=by omega
  rw[if_pos (.inr h2)];simp only[F84,go_sem,aD,h1',c15,h2']
 have h2':¬ (1024:Int) < (len f:Int):=by omega
 rw[if_neg (by omega)];obtain⟨x1,x2⟩:=l21 f hl f.length 0 (by omega) rfl;have ec:((0:Nat):Int)=0:=rfl;rw[drop_zero,take_zero,ec] at x1 x2;by_cases h:fK [] f=0
 ·obtain⟨l',m',y⟩:=x1 h
  rw[h];simp only[F84,go_sem,aD,h1',c15,h2',y,fF,gF,not_mem_nil,if_true,if_false]
 ·obtain⟨l',m',y1,y2⟩:=x2 h
  simp only[F84,go_sem,aD,h1',c15,h2',y1,y2]
end Go.Av
