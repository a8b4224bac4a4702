/- Numbers, words and lines that a fragment is made of; joining texts: exactly what 'nrm' says. A fragment that is made of numbers is valid. The length of a fragment; the tests of an item; the first error of a fragment. The tests of an item and the first error of a fragment: the program's and the reference's. Writing a fragment: the program's and the reference's. Writing a fragment: items, and whole fragments. -/
import Derived.Test.YtgbjlnijjonidaaGreatDoorG1XC
import Derived.Test.YtgbjlnijjonidaaGreatDoorG1XA
open List
set_option linter.unusedSimpArgs false
set_option linter.unusedVariables false
set_option linter.unusedSectionVars false
set_option maxRecDepth 100000
set_option maxHeartbeats 16000000
namespace Go.Av
open Go.Nt
set_option maxHeartbeats 8000000
abbrev Tk:=Int × List UInt8 × Int
def tkR (t:Tk):List AV:=[.int .i64 t.1,.str t.2.1,.int .i64 t.2.2]
def tks (l:List Tk):List (List AV):=l.map tkR
theorem aE (l:List Tk):(tks l).length=l.length:=by simp [tks]
theorem g7 (k:Int) (s:List UInt8) (i:Int):[[AV.int .i64 k,AV.str s,AV.int .i64 i]]=tks [(k,s,i)]:=rfl
theorem dN (x y:List Tk):tks x++tks y=tks (x++y):=by simp [tks]
theorem dZ:tks []=[]:=rfl
theorem bU {l:List Tk} {i:Nat} {t:Tk} (h:l[i]?=some t):(tks l)[i]?=some [.int .i64 t.1,.str t.2.1,.int .i64 t.2.2]:=by simp [tks,tkR,h]
def vO (l:List (List UInt8)):List (List AV):=l.map fun s=>[.str s]
theorem w8 {l:List (List UInt8)} {i:Nat} {s:List UInt8} (h:l[i]?=some s):(vO l)[i]?=some [.str s]:=by simp [vO,h]
theorem qQ (a b:Int) (hb:1<=b):(if a.tmod b < 0 then a.tmod b+b else a.tmod b)=a % b:=by
 have e:=Int.tmod_eq_emod (a:=a) (b:=b);have h1:=Int.emod_nonneg a (by omega:b≠0);have h2:=Int.emod_lt_of_pos a (by omega:0 < b);have hd:¬ (0<=a\/b ∣ a)->a % b≠0:=fun h h0=>h (.inr (Int.dvd_of_emod_eq_zero h0))
 by_cases h:0<=a\/b ∣ a
 ·rw[if_pos h] at e
  rw[e];rw[if_neg (by omega)];omega
 ·rw[if_neg h] at e
  have:=hd h
  rw[e];rw[if_pos (by omega)];omega
theorem ED (a b:Int) (hb:1<=b):-b < a.tmod b/\a.tmod b < b:=by
 have:=qQ a b hb
 have h1:=Int.emod_nonneg a (by omega:b≠0);have h2:=Int.emod_lt_of_pos a (by omega:0 < b);have h3:=Int.lt_tmod_of_pos a (by omega:0 < b);have h4:=Int.tmod_lt_of_pos a (by omega:0 < b);omega
theorem c18 (a b:Int) (hb:1<=b) (hb2:b<=1000000):G0 6 [.int .i64 a,.int .i64 b] []=some (.int .i64 (a % b),[]):=by
 refine aB F6 rfl rfl rfl ?_;have h0:¬ b=0:=by omega
 have h1:=ED a b hb;rw[<- qQ a b hb];simp only[F6,go_sem,h0];split
 ·rw[w64 (by omega) (by omega)]
 ·rfl
def bC (l:List Int):List (List AV):=l.map fun x=>[.int .i64 x]
theorem aU (l:List Int):(bC l).length=l.length:=by simp [bC]
theorem gC {l:List Int} {i:Nat} {x:Int} (h:l[i]?=some x):(bC l)[i]?=some [.int .i64 x]:=by simp [bC,h]
theorem pP:bC []=[]:=rfl
def num (l:List Int) (n:Nat):List AV:=[.sl .no 1 (bC l),.int .i64 n]
def nxt (l:List Int) (n:Nat) (m:Int):Int:=(if n < l.length then l.getD n 0 else 0) % m
theorem gL (l:List Int) (n:Nat) (m:Int) (h:1<=m):0<=nxt l n m/\nxt l n m < m:=⟨Int.emod_nonneg _ (by omega),Int.emod_lt_of_pos _ (by omega)⟩
def wds:List (List UInt8):=[[114,101,100],[99,97,114],[82,101,100],[97],[99,97,114,115],[49,44,53],[50,50],[100,111,110,39,116],[46],[33],[32],[32,32],[60],[38],[123],[34],[92],[120,45,121],[10],[61],[125],[62],[9],[98]]
def wd (l:List Int) (n:Nat):List UInt8:=wds.getD (nxt l n 24).toNat []
theorem AW (l:List Int) (n:Nat):(wd l n).length<=5:=by
 unfold wd
 have:∀ i,(wds.getD i []).length<=5:=by
  intro i;by_cases h:i < 24
  ·have:∀ j:Fin 24,(wds.getD j.1 []).length<=5:=by decide
   exact this ⟨i,h⟩
  ·rw[getD_eq_getElem?_getD,getElem?_eq_none (by simp [wds];omega)];simp
 exact this _
def lnF (l:List Int):Nat->Nat->List UInt8->List UInt8 × Nat
 | 0,n,out=>(out,n)
 | i+1,n,out=>if out=[] then lnF l i (n+1) (out++wd l n) else lnF l i (n+2) ((if 0 < nxt l (n+1) 3 then out++[32] else out)++wd l n)
def rH (l:List Int) (n:Nat) (m:Int):List UInt8 × Nat:=lnF l (nxt l n (m+1)).toNat (n+1) []
theorem sQ (l:List Int):∀ (k n:Nat) (out:List UInt8),(lnF l k n out).1.length<=out.length+6*k
 | 0,n,out=>by simp [lnF]
 | k+1,n,out=>by
  have hl:=AW l n;simp only[lnF];split
  ·have:=sQ l k (n+1) (out++wd l n);rw[length_append] at this;omega
  ·have:=sQ l k (n+2) ((if 0 < nxt l (n+1) 3 then out++[32] else out)++wd l n)
   rw[length_append] at this
   split at this
   ·rename_i h;rw[if_pos h];simp only[length_append,length_cons,length_nil] at *;omega
   ·rename_i h;rw[if_neg h];omega
def fl (l:List Tk):List AV:=(tks l).flatten
theorem pT (x y:List Tk):fl (x++y)=fl x++fl y:=by simp [fl,tks]
theorem wD (t:Tk):fl [t]=[.int .i64 t.1,.str t.2.1,.int .i64 t.2.2]:=rfl
theorem lU (t:Tk) (l:List Tk):fl (t :: l)=.int .i64 t.1 :: .str t.2.1 :: .int .i64 t.2.2 :: fl l:=rfl
theorem i8:∀ l:List Tk,(fl l).length=l.length*3
 | []=>rfl
 | t :: l=>by rw[lU];simp only[length_cons,i8 l];omega
theorem s5:∀ l:List Tk,(fl l).all fC=true
 | []=>rfl
 | t :: l=>by rw[lU];simp only[all_cons,s5 l,fC,Bool.and_self]
theorem wE (l:List Tk):bV (fl l)=true:=by
 cases l with
 | nil=>rfl
 | cons a l=>rfl
theorem I6 (o:List Tk) (t:Tk) (j:Nat):(fl (o++[t]))[o.length*3+j]?=[AV.int .i64 t.1,.str t.2.1,.int .i64 t.2.2][j]?:=by
 rw[pT,wD,getElem?_append_right (by rw[i8];omega),i8]
 congr 1;omega
theorem LM (o:List Tk) (t u:Tk):fP (o.length*3) [AV.int .i64 u.1,.str u.2.1,.int .i64 u.2.2] (fl (o++[t]))=some (fl (o++[u])):=by
 have:∀ (a:List AV),fP a.length [AV.int .i64 u.1,.str u.2.1,.int .i64 u.2.2] (a++[AV.int .i64 t.1,.str t.2.1,.int .i64 t.2.2])=some (a++[AV.int .i64 u.1,.str u.2.1,.int .i64 u.2.2]):=by
  intro a
  induction a with
  | nil=>rfl
  | cons x a ih=>simp only[length_cons,cons_append,vY,ih,Option.map_some]
 have h:=this (fl o);rw[i8] at h;rw[pT,wD,pT,wD];exact h
theorem BY (l:List Tk):cN 0 l.length 3 (fl l)=some (tks l):=by
 have h1:∀ l:List Tk,(fl l).all (fun x=>a8 (aH x))=true:=by
  intro l
  induction l with
  | nil=>rfl
  | cons a l ih=>rw[lU];simp only[all_cons,Bool.and_eq_true];exact⟨rfl,rfl,rfl,ih⟩
 have h2:∀ l:List Tk,(fl l).map aH=fl l:=by
  intro l
  induction l with
  | nil=>rfl
  | cons a l ih=>rw[lU];simp only[map_cons,ih,aH]
 have h3:∀ l:List Tk,cH 3 l.length (fl l)=tks l:=by
  intro l
  induction l with
  | nil=>rfl
  | cons a l ih=>rw[lU];simp only[length_cons,cH,take_succ_cons,take_zero,drop_succ_cons,drop_zero,ih];rfl
 unfold cN;have h4:((fl l).drop 0).take (l.length*3)=fl l:=by rw[drop_zero];exact take_of_length_le (by rw[i8];exact Nat.le_refl _)
 rw[h4,h2,h3,if_pos ⟨by decide,by rw[i8];omega,h1 l⟩]
def tot (l:List Tk):Nat:=(l.map fun t=>t.2.1.length).sum
theorem dL:tot []=0:=rfl
theorem cC (t:Tk) (l:List Tk):tot (t :: l)=t.2.1.length+tot l:=by simp [tot]
theorem dY (x y:List Tk):tot (x++y)=tot x+tot y:=by simp [tot]
theorem kB (f:List It) (x:It):tot (pn f x)<=tot f+x.2.1.length/\(pn f x).length<=f.length+1:=by
 refine⟨?_,(K1 f x).2⟩;unfold pn;by_cases h:x.1=1
 ·rw[if_pos h]
  split
  ·omega
  ·rcases iY (f:=f) (x:=(1,x.2.1,0)) rfl with ⟨_,h2⟩ | ⟨g,y,rfl,hy,h2⟩
   ·rw[h2,dY];simp [tot]
   ·rw[h2,dY,dY];simp [tot];omega
 ·rw[if_neg h,dY];simp [tot]
def Stt (v:AV) (sh:LL) (out:List Tk):Prop:=
 (out=[]/\v=.sl .full 3 []/\sh=[])\/(∃ D o t,out=o++[t]/\v=.ss D.length 0 (o.length+1) 3/\sh=D++[fl (o++[t])])
theorem gD (D:LL) (c:List AV):(D++[c])[D.length]?=some c:=by simp
theorem sD (D:LL) (c x:List AV):(D++[c]).set D.length x=D++[x]:=by
 rw[set_append_right _ _ (Nat.le_refl _)];simp
theorem CB {f:List It} {i:Int}:pn f (1,[],i)=f:=rfl
theorem O3 {f:List It} {k:Int} {s:Bs} {i:Int} (h:¬ k=1):pn f (k,s,i)=f++[(k,s,i)]:=by unfold pn;rw[if_neg h]
theorem CA {s:Bs} {i:Int} (h:s≠[]):pn [] (1,s,i)=[(1,s,0)]:=by simp [pn,h,Nt.put]
theorem F1 {o:List It} {t:It} {s:Bs} {i:Int} (h:s≠[]) (ht:t.1=1):pn (o++[t]) (1,s,i)=o++[(1,t.2.1++s,0)]:=by simp [pn,h,Nt.put,ht]
theorem KG {o:List It} {t:It} {s:Bs} {i:Int} (h:s≠[]) (ht:¬ t.1=1):pn (o++[t]) (1,s,i)=o++[t]++[(1,s,0)]:=by simp [pn,h,Nt.put,ht]
theorem l57 (f:List Tk) (hf:f.length<=100000):∀ (k i:Nat) (out:List Tk) (v:AV) (sh:LL),i+k=f.length->out.length<=i->tot out+tot (f.drop i)<=1000000->Stt v sh out ->
  ∃ v' sh',Stt v' sh' ((f.drop i).foldl pn out) /\
   aC G0 jI (ST [(0,.sl .no 3 (tks f)),(3,v),(8,.int .i64 f.length),(9,.int .i64 i)] [] sh)=some (.ex 0,ST [(0,.sl .no 3 (tks f)),(3,v'),(8,.int .i64 f.length),(9,.int .i64 f.length),(10,.bool false)] [] sh')
 | 0,i,out,v,sh,h1,h2,h3,hst=>by
  have:i=f.length:=by omega
  subst this;refine⟨v,sh,by rw[drop_of_length_le (Nat.le_refl _)];exact hst,?_⟩;rcases hst with ⟨rfl,rfl,rfl⟩ | ⟨D,o,t,rfl,rfl,rfl⟩
  ·rw[aA (L:=jI) rfl]
   simp only[go_sem,Int.lt_irrefl]
  ·rw[aA (L:=jI) rfl]
   simp only[go_sem,Int.lt_irrefl]
 | k+1,i,out,v,sh,h1,h2,h3,hst=>by
  have hi:i < f.length:=by omega
  have h4:(i:Int) < (f.length:Int):=by omega
  have h0:(0:Int)<=(i:Int):=by omega
  have hw:=wI (i:=i) (by omega)
  have hg:f[i]?=some f[i]:=getElem?_eq_getElem hi;have hd:f.drop i=f[i] :: f.drop (i+1):=drop_eq_getElem_cons hi;generalize f[i]=T at hg hd;have hr:=bU hg;obtain⟨kk,s,id⟩:=T;rw[hd] at h3 ⊢;rw[cC] at h3;simp only[foldl_cons];simp only[] at h3;by_cases c1:kk=1
  ·by_cases c2:s=[]
   ·subst c1 c2
    rw[CB];obtain⟨v',sh',p1,p4⟩:=l57 f hf k (i+1) out v sh (by omega) (by omega) (by simp only[length_nil] at h3;omega) hst;refine⟨v',sh',p1,?_⟩;rcases hst with ⟨rfl,rfl,rfl⟩ | ⟨D,o,t,rfl,rfl,rfl⟩
    ·rw[aA (L:=jI) rfl]
     simp only[go_sem,h4,h0,hr,hw];exact p4
    ·rw[aA (L:=jI) rfl]
     simp only[go_sem,h4,h0,hr,hw];exact p4
   ·subst c1
    have hne:(s == [])=false:=by simp [c2]
    rcases hst with ⟨rfl,rfl,rfl⟩ | ⟨D,o,t,rfl,rfl,rfl⟩
    ·rw[CA c2]
     obtain⟨v',sh',p1,p4⟩:=l57 f hf k (i+1) [(1,s,0)] (.ss 0 0 1 3) [fl [(1,s,0)]] (by omega) (by simp) (by simp only[cC,dL] at *;first | done | omega) (.inr ⟨[],[],(1,s,0),rfl,rfl,rfl⟩);refine⟨v',sh',p1,?_⟩;have ha:cK 32 1=true:=bD (by decide) (by decide);rw[aA (L:=jI) rfl];simp only[go_sem,h4,h0,hr,hw,hne,ha,Int.lt_irrefl];exact p4
    ·have hpos:(0:Int) < ((o.length+1:Nat):Int):=by omega
     have hlt:((o.length:Nat):Int) < ((o.length+1:Nat):Int):=by omega
     have hge:(0:Int)<=((o.length:Nat):Int):=by omega
     have hw3:IntKind.i64.wrap (((o.length+1:Nat):Int) - 1)=((o.length:Nat):Int):=by rw[w64 (by omega) (by simp at h2;omega)];omega
     have hat0:(fl (o++[t]))[o.length*3]?=some (.int .i64 t.1):=I6 o t 0;have hat1:(fl (o++[t]))[o.length*3+1]?=some (.str t.2.1):=I6 o t 1;by_cases c3:t.1=1
     ·rw[F1 c2 c3]
      have hc:t.2.1.length+s.length<=140737488355328:=by simp only[dY,cC,dL] at h3;omega
      have hb:=wE (o++[t]);have hp:fP (o.length*3) [.int .i64 1,.str (t.2.1++s),.int .i64 0] (fl (o++[t]))=some (fl (o++[(1,t.2.1++s,0)])):=LM o t (1,t.2.1++s,0);obtain⟨v',sh',p1,p4⟩:=l57 f hf k (i+1) (o++[(1,t.2.1++s,0)]) (.ss D.length 0 (o.length+1) 3) (D++[fl (o++[(1,t.2.1++s,0)])]) (by omega) (by simp at h2 ⊢;omega) (by simp only[dY,cC,dL,length_append] at *;omega) (.inr ⟨D,o,_,rfl,rfl,rfl⟩);refine⟨v',sh',p1,?_⟩;rw[aA (L:=jI) rfl];simp only[go_sem,h4,h0,hr,hw,hne,hpos,hlt,hge,hw3,gD,sD,hat0,hat1,c3,Nat.add_zero,hc,hb,hp];exact p4
     ·rw[KG c2 c3]
      have h6:(o.length+1)*3=(fl (o++[t])).length:=by rw[i8];simp
      have ha:cK 32 (o.length+1+1)=true:=bD (by decide) (by simp at h2;omega);have hb:=wE (o++[t]);have hn:=s5 (o++[t]);have e6:fl (o++[t])++[[AV.int .i64 1,.str s,.int .i64 0]].flatten=fl (o++[t]++[(1,s,0)]):=by rw[pT (o++[t])];rfl
      have eL:(D++[fl (o++[t])]).length=(D++[bJ]).length:=by simp
      obtain⟨v',sh',p1,p4⟩:=l57 f hf k (i+1) (o++[t]++[(1,s,0)]) (.ss (D++[bJ]).length 0 (o.length+1+1) 3) ((D++[bJ])++[fl (o++[t]++[(1,s,0)])]) (by omega) (by simp at h2 ⊢;omega) (by simp only[dY,cC,dL] at *;omega) (.inr ⟨D++[bJ],o++[t],(1,s,0),rfl,by simp,rfl⟩);refine⟨v',sh',p1,?_⟩;rw[aA (L:=jI) rfl];simp only[go_sem,h4,h0,hr,hw,hne,hpos,hlt,hge,hw3,gD,sD,hat0,hat1,c3,Nat.add_zero,ha,hb,hn,h6,eL];rw[e6];exact p4
  ·rw[O3 c1]
   rcases hst with ⟨rfl,rfl,rfl⟩ | ⟨D,o,t,rfl,rfl,rfl⟩
   ·rw[nil_append]
    obtain⟨v',sh',p1,p4⟩:=l57 f hf k (i+1) [(kk,s,id)] (.ss 0 0 1 3) [fl [(kk,s,id)]] (by omega) (by simp) (by simp only[cC,dL] at *;first | done | omega) (.inr ⟨[],[],(kk,s,id),rfl,rfl,rfl⟩);refine⟨v',sh',p1,?_⟩;have ha:cK 32 1=true:=bD (by decide) (by decide);rw[aA (L:=jI) rfl];simp only[go_sem,h4,h0,hr,hw,c1,ha];exact p4
   ·have h6:(o.length+1)*3=(fl (o++[t])).length:=by rw[i8];simp
    have ha:cK 32 (o.length+1+1)=true:=bD (by decide) (by simp at h2;omega);have hb:=wE (o++[t]);have hn:=s5 (o++[t]);have e6:fl (o++[t])++[[AV.int .i64 kk,.str s,.int .i64 id]].flatten=fl (o++[t]++[(kk,s,id)]):=by rw[pT (o++[t])];rfl
    have eL:(D++[fl (o++[t])]).length=(D++[bJ]).length:=by simp
    obtain⟨v',sh',p1,p4⟩:=l57 f hf k (i+1) (o++[t]++[(kk,s,id)]) (.ss (D++[bJ]).length 0 (o.length+1+1) 3) ((D++[bJ])++[fl (o++[t]++[(kk,s,id)])]) (by omega) (by simp at h2 ⊢;omega) (by simp only[dY,cC,dL] at *;omega) (.inr ⟨D++[bJ],o++[t],(kk,s,id),rfl,by simp,rfl⟩);refine⟨v',sh',p1,?_⟩;rw[aA (L:=jI) rfl];simp only[go_sem,h4,h0,hr,hw,c1,gD,sD,ha,hb,hn,h6,eL];rw[e6];exact p4
theorem c57 (f:List Tk) (hf:f.length<=100000) (ht:tot f<=1000000):G0 29 [.sl .no 3 (tks f)] []=some (.sl .no 3 (tks (nrm f)),[]):=by
 obtain⟨v,sh,p1,p4⟩:=l57 f hf f.length 0 [] (.sl .full 3 []) [] (by omega) (by simp) (by rw[drop_zero,dL];omega) (.inl ⟨rfl,rfl,rfl⟩);rw[drop_zero] at p1;have p1:Stt v sh (nrm f):=p1;generalize nrm f=g at p1 ⊢;refine aB F29 rfl rfl rfl ?_;simp only[go_sem] at p4;rcases p1 with ⟨rfl,rfl,rfl⟩ | ⟨D,o,t,rfl,rfl,rfl⟩
 ·simp only[F29,go_sem,aE,p4,dZ]
 ·have hr:=BY (o++[t])
  simp only[length_append,length_cons,length_nil,Nat.zero_add] at hr;have hs:cZ [] (D++[fl (o++[t])])=true:=rfl;have hk:eI false 0 (D++[fl (o++[t])])=true:=rfl;simp only[F29,go_sem,aE,p4,gD,hr,hs,hk,Nat.zero_le]
theorem c37 (f g:List Tk) (hf:f.length+g.length<=100000) (ht:tot f+tot g<=1000000):G0 17 [.sl .no 3 (tks f),.sl .no 3 (tks g)] []=some (.sl .no 3 (tks (nrm (f++g))),[]):=by
 have q3:=c57 (f++g) (by simpa using hf) (by rw[dY];exact ht);refine aB F17 rfl rfl rfl ?_;have ha:cK 32 f.length=true:=bD (by decide) (by omega);have ha2:cK 32 (f.length+g.length)=true:=bD (by decide) (by omega);simp only[F17,go_sem,bH .full .no (by decide) 3 32 (by decide),bH .own .no (by decide) 3 32 (by decide),aE,ha,ha2,dN,q3]
theorem AL {f:List Tk} (hv:VL f) (x:Tk) (hf:f.length<=10000) (ht:tot f+x.2.1.length<=100000):G0 17 [.sl .no 3 (tks f),.sl .no 3 [[.int .i64 x.1,.str x.2.1,.int .i64 x.2.2]]] []=some (.sl .no 3 (tks (pn f x)),[]):=by
 have:=c37 f [x] (by simp only[length_cons,length_nil];omega) (by rw[cC,dL];omega)
 rw[uC hv] at this;exact this
end Go.Av
namespace Go.Av
open Go.Nt
set_option maxHeartbeats 8000000
theorem CP (l:List Int):∀ (k n:Nat) (out:List UInt8),(lnF l k n out).2<=n+2*k
 | 0,n,out=>by simp [lnF]
 | k+1,n,out=>by
  simp only[lnF];split
  ·have:=CP l k (n+1) (out++wd l n);omega
  ·have:=CP l k (n+2) ((if 0 < nxt l (n+1) 3 then out++[32] else out)++wd l n);omega
theorem PO (l:List Int) (n:Nat):(rH l n 3).1.length<=18/\(rH l n 3).2<=n+10:=by
 have hb:=gL l n 4 (by omega);have h1:=sQ l (nxt l n 4).toNat (n+1) [];have h2:=CP l (nxt l n 4).toNat (n+1) [];simp only[length_nil] at h1;show (lnF l (nxt l n 4).toNat (n+1) []).1.length<=18/\(lnF l (nxt l n 4).toNat (n+1) []).2<=n+10;omega
def tbA:List (List UInt8):=[[110],[110,97,109,101],[120,49]]
def tbB:List (List UInt8):=[[98,114],[105,109,103,32,97]]
def tbC:List (List UInt8):=[[98],[105],[97,32,104,61,49]]
theorem A5 (tb:List (List UInt8)) (hl:∀ i,(tb.getD i []).length<=5) (l:List Int) (n:Nat) (m:Int) (hm:1<=m) (h:m=(tb.length:Int)):∃ x:List UInt8,x∈tb/\x.length<=5/\(vO tb)[(nxt l n m).toNat]?=some [.str x]/\0<=nxt l n m:=by
 have hb:=gL l n m hm;refine⟨tb.getD (nxt l n m).toNat [],?_,hl _,?_,hb.1⟩
 ·rw[getD_eq_getElem?_getD,getElem?_eq_getElem (by omega)];exact getElem_mem _
 apply w8;rw[getD_eq_getElem?_getD,getElem?_eq_getElem (by omega)];rfl
theorem TV:∀ i,(tbA.getD i []).length<=5
 | 0=>by decide
 | 1=>by decide
 | 2=>by decide
 | i+3=>by simp [tbA]
theorem TU:∀ i,(tbB.getD i []).length<=5
 | 0=>by decide
 | 1=>by decide
 | i+2=>by simp [tbB]
theorem TT:∀ i,(tbC.getD i []).length<=5
 | 0=>by decide
 | 1=>by decide
 | 2=>by decide
 | i+3=>by simp [tbC]
theorem JT:∀ x∈tbA,eF x=true:=by decide
theorem N9:∀ x∈tbB,isC x=true:=by decide
theorem N8:∀ x∈tbC,isC x=true:=by decide
theorem oV {l:List Tk} {j:Nat} {t:Tk} (h:l[j]?=some t):l=l.take j++t :: l.drop (j+1):=by
 have hj:j < l.length:=by
  by_cases q:j < l.length
  ·exact q
  ·rw[getElem?_eq_none (by omega)] at h;cases h
 rw[getElem?_eq_getElem hj] at h;simp only[Option.some.injEq] at h
 conv=>lhs;rw[<- take_append_drop j l,drop_eq_getElem_cons hj,h]
theorem CU:∀ f:List Tk,len f<=tot f+f.length
 | []=>by simp [len,tot]
 | t :: f=>by
  have ih:=CU f;have e:len (t :: f)=wid t+len f:=by simp [len]
  have hw:wid t<=t.2.1.length+1:=by unfold wid;split<;>omega
  rw[e,cC,length_cons];omega
theorem mA:fY 1 [.str []] 3 [0,1,2] [.str [110],.str [110,97,109,101],.str [120,49]]=some (.sl .full 1 (vO tbA)):=by rfl
theorem mB:fY 1 [.str []] 2 [0,1] [.str [98,114],.str [105,109,103,32,97]]=some (.sl .full 1 (vO tbB)):=by rfl
theorem mC:fY 1 [.str []] 3 [0,1,2] [.str [98],.str [105],.str [97,32,104,61,49]]=some (.sl .full 1 (vO tbC)):=by rfl
end Go.Av
namespace Go.Av
open Go.Nt
set_option maxHeartbeats 8000000
theorem lQ (t:Tk) (f:List Tk):len (t :: f)=wid t+len f:=by simp [len]
theorem xZ:len []=0:=rfl
abbrev dW:Nat:=140737488355328
theorem l67 (f:List Tk) (hl:f.length<=10000) (hb:∀ t∈f,t.2.1.length<=dW):∀ (k i n:Nat),i+k=f.length->n<=i*dW ->
  aC G0 zG (ST [(3,.int .i64 n),(6,.sl .no 3 (tks f)),(7,.int .i64 f.length),(8,.int .i64 i)] [] [])=some (.ex 0,ST [(3,.int .i64 ((n+len (f.drop i):Nat):Int)),(6,.sl .no 3 (tks f)),(7,.int .i64 f.length),(8,.int .i64 f.length),(9,.bool false)] [] [])
 | 0,i,n,h,hn=>by
  have:i=f.length:=by omega
  subst this;rw[aA (L:=zG) rfl];simp only[go_sem,Int.lt_irrefl,drop_length,xZ,Nat.add_zero]
 | k+1,i,n,h,hn=>by
  have hi:i < f.length:=by omega
  have h4:(i:Int) < (f.length:Int):=by omega
  have h0:(0:Int)<=(i:Int):=by omega
  have hw:=wI (i:=i) (by omega)
  have hg:f[i]?=some f[i]:=getElem?_eq_getElem hi;have hd:f.drop i=f[i] :: f.drop (i+1):=drop_eq_getElem_cons hi;have hm:=hb _ (getElem_mem hi);generalize f[i]=T at hg hd hm;have hr:=bU hg;obtain⟨kk,s,id⟩:=T;simp only[] at hm hr;have c96:=c96 kk s id;have hwd:wid (kk,s,id)<=s.length+1:=by unfold wid;split<;>(first | omega | (simp only[];omega))
  have hwd2:wid (kk,s,id)<=dW:=by unfold wid dW;split<;>(first | omega | (simp only[];omega))
  rw[hd,lQ];generalize wid (kk,s,id)=w at *;simp only[dW] at *;have hw2:IntKind.i64.wrap ((n:Int)+(w:Int))=((n+w:Nat):Int):=by rw[w64 (by omega) (by omega)];rfl
  have ih:=l67 f hl hb k (i+1) (n+w) (by omega) (by simp only[dW];omega);rw[aA (L:=zG) rfl];simp only[go_sem,h4,h0,hr,hw,c96,hw2];rw[Nat.add_assoc] at ih;exact ih
theorem c67 (f:List Tk) (hl:f.length<=10000) (hb:∀ t∈f,t.2.1.length<=dW):G0 31 [.sl .no 3 (tks f)] []=some (.int .i64 (len f:Nat),[]):=by
 refine aB F31 rfl rfl rfl ?_;have x:=l67 f hl hb f.length 0 0 (by omega) (by omega);have ec:((0:Nat):Int)=0:=rfl;rw[ec] at x;simp only[Nat.zero_add,drop_zero] at x;simp only[F31,go_sem,aE,x]
theorem l15 (f:List Tk) (hl:f.length<=10000) (hb:∀ t∈f,t.2.1.length<=dW):∀ (k i n:Nat),i+k=f.length->n<=i*dW ->
  aC G0 D6 (ST [(0,.sl .no 3 (tks f)),(3,.int .i64 n),(6,.int .i64 f.length),(7,.int .i64 i)] [] [])=some (.ex 0,ST [(0,.sl .no 3 (tks f)),(3,.int .i64 ((n+len (f.drop i):Nat):Int)),(6,.int .i64 f.length),(7,.int .i64 f.length),(8,.bool false)] [] [])
 | 0,i,n,h,hn=>by
  have:i=f.length:=by omega
  subst this;rw[aA (L:=D6) rfl];simp only[go_sem,Int.lt_irrefl,drop_length,xZ,Nat.add_zero]
 | k+1,i,n,h,hn=>by
  have hi:i < f.length:=by omega
  have h4:(i:Int) < (f.length:Int):=by omega
  have h0:(0:Int)<=(i:Int):=by omega
  have hw:=wI (i:=i) (by omega)
  have hg:f[i]?=some f[i]:=getElem?_eq_getElem hi;have hd:f.drop i=f[i] :: f.drop (i+1):=drop_eq_getElem_cons hi;have hm:=hb _ (getElem_mem hi);generalize f[i]=T at hg hd hm;have hr:=bU hg;obtain⟨kk,s,id⟩:=T;simp only[] at hm hr;rw[hd,lQ];simp only[dW] at *;by_cases hk:kk=1
  ·subst hk
   have e:wid (1,s,id)=s.length:=rfl;have hw2:IntKind.i64.wrap ((n:Int)+(s.length:Int))=((n+s.length:Nat):Int):=by rw[w64 (by omega) (by omega)];rfl
   have ih:=l15 f hl hb k (i+1) (n+s.length) (by omega) (by simp only[dW];omega);rw[aA (L:=D6) rfl,e];simp only[go_sem,h4,h0,hr,hw,hw2];rw[Nat.add_assoc] at ih;exact ih
  ·have e:wid (kk,s,id)=1:=by unfold wid;rw[if_neg hk]
   have hw2:IntKind.i64.wrap ((n:Int)+1)=((n+1:Nat):Int):=by rw[w64 (by omega) (by omega)];rfl
   have ih:=l15 f hl hb k (i+1) (n+1) (by omega) (by simp only[dW];omega);rw[aA (L:=D6) rfl,e];simp only[go_sem,h4,h0,hr,hw,hk,hw2];rw[Nat.add_assoc] at ih;exact ih
theorem c15 (f:List Tk) (hl:f.length<=10000) (hb:∀ t∈f,t.2.1.length<=dW):G0 4 [.sl .no 3 (tks f)] []=some (.int .i64 (len f:Nat),[]):=by
 refine aB F4 rfl rfl rfl ?_;have x:=l15 f hl hb f.length 0 0 (by omega) (by omega);have ec:((0:Nat):Int)=0:=rfl;rw[ec] at x;simp only[Nat.zero_add,drop_zero] at x;simp only[F4,go_sem,aE,x]
theorem l70 (B:List Tk) (hl:B.length<=1000000) (hb:∀ t∈B,t.1=2->t.2.1.length<=1000000) (k0:Int) (s0:Bs) (i0:Int):∀ (k i:Nat),i+k=B.length ->
  ((B.drop i).any (bZ (k0,s0,i0))=false->aC G0 j9 (ST [(3,.loc 3 0),(7,.sl .no 3 (tks B)),(8,.int .i64 B.length),(9,.int .i64 i)] [(3,some [.int .i64 k0,.str s0,.int .i64 i0])] [])=some (.ex 0,ST [(3,.loc 3 0),(7,.sl .no 3 (tks B)),(8,.int .i64 B.length),(9,.int .i64 B.length),(10,.bool false)] [(3,some [.int .i64 k0,.str s0,.int .i64 i0])] [])) /\
  ((B.drop i).any (bZ (k0,s0,i0))=true->∃ l' m',aC G0 j9 (ST [(3,.loc 3 0),(7,.sl .no 3 (tks B)),(8,.int .i64 B.length),(9,.int .i64 i)] [(3,some [.int .i64 k0,.str s0,.int .i64 i0])] [])=some (.ret,ST l' m' [])/\aF .any l' 4=.bool false)
 | 0,i,h=>by
  have:i=B.length:=by omega
  subst this;refine⟨fun _=>?_,fun h=>(by simp at h)⟩;rw[aA (L:=j9) rfl];simp only[go_sem,Int.lt_irrefl]
 | k+1,i,h=>by
  have hi:i < B.length:=by omega
  have h4:(i:Int) < (B.length:Int):=by omega
  have h0:(0:Int)<=(i:Int):=by omega
  have hw:=wI (i:=i) (by omega)
  have hg:B[i]?=some B[i]:=getElem?_eq_getElem hi;have hd:B.drop i=B[i] :: B.drop (i+1):=drop_eq_getElem_cons hi;have hm:=hb _ (getElem_mem hi);generalize B[i]=T at hg hd hm;have hr:=bU hg;obtain⟨kk,s,id⟩:=T;simp only[] at hm hr;have c69:=c69 kk s id;have ih:=l70 B hl hb k0 s0 i0 k (i+1) (by omega);rw[hd,any_cons];have ec:bZ (k0,s0,i0) (kk,s,id)=(aW (kk,s,id) && decide (id=i0) && !(decide (k0=3) && decide (kk=2) && (aQ s == s0))):=rfl;have step:bZ (k0,s0,i0) (kk,s,id)=false->aC G0 j9 (ST [(3,.loc 3 0),(7,.sl .no 3 (tks B)),(8,.int .i64 B.length),(9,.int .i64 i)] [(3,some [.int .i64 k0,.str s0,.int .i64 i0])] [])=aC G0 j9 (ST [(3,.loc 3 0),(7,.sl .no 3 (tks B)),(8,.int .i64 B.length),(9,.int .i64 ((i+1:Nat):Int))] [(3,some [.int .i64 k0,.str s0,.int .i64 i0])] []):=by
   intro hc;rw[ec] at hc
   conv=>lhs;rw[aA (L:=j9) rfl]
   cases ht:aW (kk,s,id) with
   | false =>
    rw[ht] at c69;simp only[go_sem,h4,h0,hr,hw,c69]
   | true =>
    rw[ht] at c69 hc;by_cases h1:id=i0
    ·subst h1
     simp only[decide_true,Bool.true_and,Bool.not_eq_false',Bool.and_eq_true,decide_eq_true_eq,beq_iff_eq] at hc;obtain⟨⟨rfl,rfl⟩,h3⟩:=hc;have c98:=c98 s (hm rfl);rw[h3] at c98;have e:(s0 != s0)=false:=by simp
     simp only[go_sem,h4,h0,hr,hw,c69,c98,e]
    ·simp only[go_sem,h4,h0,hr,hw,c69,h1]
  cases hc:bZ (k0,s0,i0) (kk,s,id) with
  | false =>
   rw[step hc,Bool.false_or];exact ih
  | true =>
   rw[Bool.true_or];refine⟨fun q=>(by cases q),fun _=>?_⟩;rw[ec] at hc;simp only[Bool.and_eq_true,decide_eq_true_eq,Bool.not_eq_true'] at hc;obtain⟨⟨ht,rfl⟩,hx⟩:=hc;rw[ht] at c69;by_cases h1:k0=3
   ·subst h1
    by_cases h2:kk=2
    ·subst h2
     have c98:=c98 s (hm rfl);simp only[decide_true,Bool.true_and,beq_eq_false_iff_ne] at hx;have e:(aQ s != s0)=true:=by simp [hx]
     refine Exists.intro ?_ (Exists.intro ?_ (And.intro ?_ ?_))
     rotate_left 2
     ·rw[aA (L:=j9) rfl]
      simp only[go_sem,h4,h0,hr,hw,c69,c98,e];rfl
     ·rfl
    ·refine Exists.intro ?_ (Exists.intro ?_ (And.intro ?_ ?_))
     rotate_left 2
     ·rw[aA (L:=j9) rfl]
      simp only[go_sem,h4,h0,hr,hw,c69,h2];rfl
     ·rfl
   ·refine Exists.intro ?_ (Exists.intro ?_ (And.intro ?_ ?_))
    rotate_left 2
    ·rw[aA (L:=j9) rfl]
     simp only[go_sem,h4,h0,hr,hw,c69,h1];rfl
    ·rfl
theorem c70 (B:List Tk) (hl:B.length<=1000000) (hb:∀ t∈B,t.1=2->t.2.1.length<=1000000) (k0:Int) (s0:Bs) (i0:Int):G0 34 [.sl .no 3 (tks B),.agg [.int .i64 k0,.str s0,.int .i64 i0]] []=some (.bool (i9 B (k0,s0,i0)),[]):=by
 refine aB F34 rfl rfl rfl ?_;obtain⟨x1,x2⟩:=l70 B hl hb k0 s0 i0 B.length 0 (by omega);have ec:((0:Nat):Int)=0:=rfl;rw[drop_zero,ec] at x1 x2;unfold i9;cases h:B.any (bZ (k0,s0,i0)) with
 | false=>simp only[F34,go_sem,aE,x1 h]
 | true =>
  obtain⟨l',m',y1,y2⟩:=x2 h;simp only[F34,go_sem,aE,y1,y2]
end Go.Av
namespace Go.Av
open Go.Nt
set_option maxHeartbeats 8000000
theorem v7 {f:List Tk} {i:Nat} {y:Tk} (h:f[i]?=some y):fD (f.take (i+1))=y.1:=by
 have hi:i < f.length:=by
  by_cases q:i < f.length
  ·exact q
  ·rw[getElem?_eq_none (by omega)] at h;cases h
 rw[getElem?_eq_getElem hi] at h;simp only[Option.some.injEq] at h;rw[take_succ_eq_append_getElem hi,h,dH]
theorem lM {s:Bs} (h:s≠[]):(s != ([]:Bs))=true:=by simp [h]
theorem lW {s:Bs} (h:s≠[]):(s == ([]:Bs))=false:=by simp [h]
theorem c68 (f:List Tk) (hl:f.length<=1000000) (i:Nat) (k:Int) (s:Bs) (id:Int) (hi:f[i]?=some (k,s,id)):G0 32 [.sl .no 3 (tks f),.int .i64 i] []=some (.bool (wfB (f.take i) (k,s,id)),[]):=by
 refine aB F32 rfl rfl rfl ?_;have h0:(0:Int)<=(i:Int):=by omega
 have hlt:i < f.length:=by
  by_cases q:i < f.length
  ·exact q
  ·rw[getElem?_eq_none (by omega)] at hi;cases hi
 have hr:=bU hi;simp only[] at hr;have z0:((([]:Bs) != ([]:Bs))=false):=rfl;by_cases k1:k=1
 ·subst k1
  by_cases h1:s=[]
  ·subst h1
   have e:wfB (f.take i) (1,[],id)=false:=rfl;rw[e];simp only[F32,go_sem,h0,hr,z0]
  by_cases h2:id=0
  ·subst h2
   cases i with
   | zero =>
    have e:wfB (f.take 0) (1,s,0)=true:=by simp [wfB,h1,fD]
    rw[e];have hz:((0:Nat):Int)=0:=rfl;rw[hz] at *;have hr:(tks f)[0]?=some [.int .i64 1,.str s,.int .i64 0]:=hr;simp only[F32,go_sem,h0,hr,lM h1]
   | succ j =>
    have hg:f[j]?=some f[j]:=getElem?_eq_getElem (by omega);generalize f[j]=Y at hg;have hr2:=bU hg;have hK:=v7 hg;have n0:¬ ((j+1:Nat):Int)=0:=by omega
    have w1:IntKind.i64.wrap (((j+1:Nat):Int) - 1)=(j:Int):=by rw[w64 (by omega) (by omega)];omega
    have j0:(0:Int)<=(j:Int):=by omega
    by_cases h3:Y.1=1
    ·have e:wfB (f.take (j+1)) (1,s,0)=false:=by simp [wfB,hK,h3]
     rw[e];simp only[F32,go_sem,h0,hr,lM h1,n0,w1,j0,hr2,h3]
    ·have e:wfB (f.take (j+1)) (1,s,0)=true:=by simp [wfB,hK,h3,h1]
     rw[e];simp only[F32,go_sem,h0,hr,lM h1,n0,w1,j0,hr2,h3]
  ·have e:wfB (f.take i) (1,s,id)=false:=by simp [wfB,h2]
   rw[e];simp only[F32,go_sem,h0,hr,lM h1,h2]
 by_cases k5:k=5
 ·subst k5
  have e:wfB (f.take i) (5,s,id)=(eF s && decide (id=0)):=rfl;rw[e];have h83:=c83 s;cases hn:eF s with
  | false =>
   rw[hn] at h83;simp only[F32,go_sem,h0,hr,h83,Bool.false_and]
  | true =>
   rw[hn] at h83;by_cases h2:id=0
   ·simp only[F32,go_sem,h0,hr,h83,h2,Bool.true_and,decide_true]
   ·simp only[F32,go_sem,h0,hr,h83,h2,Bool.true_and,decide_false]
 by_cases k2:k=2\/k=4
 ·have e:wfB (f.take i) (k,s,id)=(isC s && (decide (1<=id) && decide (id<=999))):=by rcases k2 with rfl | rfl<;>rfl
  rw[e];have h97:=c97 s;rcases k2 with rfl | rfl
  all_goals
   cases hn:isC s with
   | false =>
    rw[hn] at h97;simp only[F32,go_sem,h0,hr,h97,Bool.false_and]
   | true =>
    rw[hn] at h97;by_cases h2:1<=id
    ·by_cases h3:id<=999
     ·simp only[F32,go_sem,h0,hr,h97,h2,h3,Bool.true_and,decide_true]
     ·simp only[F32,go_sem,h0,hr,h97,h2,h3,Bool.true_and,decide_true,decide_false]
    ·simp only[F32,go_sem,h0,hr,h97,h2,Bool.true_and,decide_false,Bool.false_and]
 have k2':¬ k=2:=fun q=>k2 (.inl q)
 have k4':¬ k=4:=fun q=>k2 (.inr q)
 by_cases k3:k=3
 ·subst k3
  have e:wfB (f.take i) (3,s,id)=(eF s && (decide (1<=id) && decide (id<=999))):=rfl;rw[e];have h83:=c83 s;cases hn:eF s with
  | false =>
   rw[hn] at h83;simp only[F32,go_sem,h0,hr,h83,Bool.false_and]
  | true =>
   rw[hn] at h83;by_cases h2:1<=id
   ·by_cases h3:id<=999
    ·simp only[F32,go_sem,h0,hr,h83,h2,h3,Bool.true_and,decide_true]
    ·simp only[F32,go_sem,h0,hr,h83,h2,h3,Bool.true_and,decide_true,decide_false]
   ·simp only[F32,go_sem,h0,hr,h83,h2,Bool.true_and,decide_false,Bool.false_and]
 ·have e:wfB (f.take i) (k,s,id)=false:=by simp [wfB,k1,k5,k2',k4',k3]
  rw[e];simp only[F32,go_sem,h0,hr,k1,k5,k2',k4',k3]
theorem P2 (B:List Tk) (hl:B.length<=1000000) (hb:∀ t∈B,t.1=2->t.2.1.length<=1000000) (k0:Int) (s0:Bs) (i0:Int):∀ (k i:Nat),i+k=B.length ->
  ((B.drop i).any (bZ (k0,s0,i0))=false->aC G0 eO (ST [(0,.sl .no 3 (tks B)),(3,.loc 3 0),(8,.int .i64 k0),(9,.bool false),(34,.bool false),(45,.bool true),(61,.bool false),(79,.int .i64 B.length),(80,.int .i64 i)] [(3,some [.int .i64 k0,.str s0,.int .i64 i0])] [])=some (.ex 1,ST [(0,.sl .no 3 (tks B)),(3,.loc 3 0),(8,.int .i64 k0),(9,.bool false),(34,.bool false),(45,.bool true),(61,.bool false),(79,.int .i64 B.length),(80,.int .i64 B.length),(81,.bool false)] [(3,some [.int .i64 k0,.str s0,.int .i64 i0])] [])) /\
  ((B.drop i).any (bZ (k0,s0,i0))=true->∃ l' m',aC G0 eO (ST [(0,.sl .no 3 (tks B)),(3,.loc 3 0),(8,.int .i64 k0),(9,.bool false),(34,.bool false),(45,.bool true),(61,.bool false),(79,.int .i64 B.length),(80,.int .i64 i)] [(3,some [.int .i64 k0,.str s0,.int .i64 i0])] [])=some (.ret,ST l' m' [])/\aF .any l' 4=.int .i64 7)
 | 0,i,h=>by
  have:i=B.length:=by omega
  subst this;refine⟨fun _=>?_,fun h=>(by simp at h)⟩;rw[aA (L:=eO) rfl];simp only[go_sem,Int.lt_irrefl]
 | k+1,i,h=>by
  have hi:i < B.length:=by omega
  have h4:(i:Int) < (B.length:Int):=by omega
  have h0:(0:Int)<=(i:Int):=by omega
  have hw:=wI (i:=i) (by omega)
  have hg:B[i]?=some B[i]:=getElem?_eq_getElem hi;have hd:B.drop i=B[i] :: B.drop (i+1):=drop_eq_getElem_cons hi;have hm:=hb _ (getElem_mem hi);generalize B[i]=T at hg hd hm;have hr:=bU hg;obtain⟨kk,s,id⟩:=T;simp only[] at hm hr;have c65:=c65 kk s id;have ih:=P2 B hl hb k0 s0 i0 k (i+1) (by omega);rw[hd,any_cons];have ec:bZ (k0,s0,i0) (kk,s,id)=(aW (kk,s,id) && decide (id=i0) && !(decide (k0=3) && decide (kk=2) && (aQ s == s0))):=rfl;have step:bZ (k0,s0,i0) (kk,s,id)=false->aC G0 eO (ST [(0,.sl .no 3 (tks B)),(3,.loc 3 0),(8,.int .i64 k0),(9,.bool false),(34,.bool false),(45,.bool true),(61,.bool false),(79,.int .i64 B.length),(80,.int .i64 i)] [(3,some [.int .i64 k0,.str s0,.int .i64 i0])] [])=aC G0 eO (ST [(0,.sl .no 3 (tks B)),(3,.loc 3 0),(8,.int .i64 k0),(9,.bool false),(34,.bool false),(45,.bool true),(61,.bool false),(79,.int .i64 B.length),(80,.int .i64 ((i+1:Nat):Int))] [(3,some [.int .i64 k0,.str s0,.int .i64 i0])] []):=by
   intro hc;rw[ec] at hc
   conv=>lhs;rw[aA (L:=eO) rfl]
   cases ht:aW (kk,s,id) with
   | false =>
    rw[ht] at c65;simp only[go_sem,h4,h0,hr,hw,c65]
   | true =>
    rw[ht] at c65 hc;by_cases h1:id=i0
    ·subst h1
     simp only[decide_true,Bool.true_and,Bool.not_eq_false',Bool.and_eq_true,decide_eq_true_eq,beq_iff_eq] at hc;obtain⟨⟨rfl,rfl⟩,h3⟩:=hc;have c64:=c64 s (hm rfl);rw[h3] at c64;have e:(s0 != s0)=false:=by simp
     simp only[go_sem,h4,h0,hr,hw,c65,c64,e]
    ·simp only[go_sem,h4,h0,hr,hw,c65,h1]
  cases hc:bZ (k0,s0,i0) (kk,s,id) with
  | false =>
   rw[step hc,Bool.false_or];exact ih
  | true =>
   rw[Bool.true_or];refine⟨fun q=>(by cases q),fun _=>?_⟩;rw[ec] at hc;simp only[Bool.and_eq_true,decide_eq_true_eq,Bool.not_eq_true'] at hc;obtain⟨⟨ht,rfl⟩,hx⟩:=hc;rw[ht] at c65;by_cases h1:k0=3
   ·subst h1
    by_cases h2:kk=2
    ·subst h2
     have c64:=c64 s (hm rfl);simp only[decide_true,Bool.true_and,beq_eq_false_iff_ne] at hx;have e:(aQ s != s0)=true:=by simp [hx]
     refine Exists.intro ?_ (Exists.intro ?_ (And.intro ?_ ?_))
     rotate_left 2
     ·rw[aA (L:=eO) rfl]
      simp only[go_sem,h4,h0,hr,hw,c65,c64,e];rfl
     ·rfl
    ·refine Exists.intro ?_ (Exists.intro ?_ (And.intro ?_ ?_))
     rotate_left 2
     ·rw[aA (L:=eO) rfl]
      simp only[go_sem,h4,h0,hr,hw,c65,h2];rfl
     ·rfl
   ·refine Exists.intro ?_ (Exists.intro ?_ (And.intro ?_ ?_))
    rotate_left 2
    ·rw[aA (L:=eO) rfl]
     simp only[go_sem,h4,h0,hr,hw,c65,h1];rfl
    ·rfl
theorem PZ (B:List Tk) (hl:B.length<=1000000) (hb:∀ t∈B,t.1=2->t.2.1.length<=1000000) (k0:Int) (s0:Bs) (i0:Int):∀ (k i:Nat),i+k=B.length ->
  ((B.drop i).any (bZ (k0,s0,i0))=false->aC G0 eO (ST [(0,.sl .no 3 (tks B)),(3,.loc 3 0),(9,.bool false),(34,.bool false),(45,.bool false),(62,.bool true),(77,.bool false),(79,.int .i64 B.length),(80,.int .i64 i)] [(3,some [.int .i64 k0,.str s0,.int .i64 i0])] [])=some (.ex 1,ST [(0,.sl .no 3 (tks B)),(3,.loc 3 0),(9,.bool false),(34,.bool false),(45,.bool false),(62,.bool true),(77,.bool false),(79,.int .i64 B.length),(80,.int .i64 B.length),(81,.bool false)] [(3,some [.int .i64 k0,.str s0,.int .i64 i0])] [])) /\
  ((B.drop i).any (bZ (k0,s0,i0))=true->∃ l' m',aC G0 eO (ST [(0,.sl .no 3 (tks B)),(3,.loc 3 0),(9,.bool false),(34,.bool false),(45,.bool false),(62,.bool true),(77,.bool false),(79,.int .i64 B.length),(80,.int .i64 i)] [(3,some [.int .i64 k0,.str s0,.int .i64 i0])] [])=some (.ret,ST l' m' [])/\aF .any l' 4=.int .i64 7)
 | 0,i,h=>by
  have:i=B.length:=by omega
  subst this;refine⟨fun _=>?_,fun h=>(by simp at h)⟩;rw[aA (L:=eO) rfl];simp only[go_sem,Int.lt_irrefl]
 | k+1,i,h=>by
  have hi:i < B.length:=by omega
  have h4:(i:Int) < (B.length:Int):=by omega
  have h0:(0:Int)<=(i:Int):=by omega
  have hw:=wI (i:=i) (by omega)
  have hg:B[i]?=some B[i]:=getElem?_eq_getElem hi;have hd:B.drop i=B[i] :: B.drop (i+1):=drop_eq_getElem_cons hi;have hm:=hb _ (getElem_mem hi);generalize B[i]=T at hg hd hm;have hr:=bU hg;obtain⟨kk,s,id⟩:=T;simp only[] at hm hr;have c65:=c65 kk s id;have ih:=PZ B hl hb k0 s0 i0 k (i+1) (by omega);rw[hd,any_cons];have ec:bZ (k0,s0,i0) (kk,s,id)=(aW (kk,s,id) && decide (id=i0) && !(decide (k0=3) && decide (kk=2) && (aQ s == s0))):=rfl;have step:bZ (k0,s0,i0) (kk,s,id)=false->aC G0 eO (ST [(0,.sl .no 3 (tks B)),(3,.loc 3 0),(9,.bool false),(34,.bool false),(45,.bool false),(62,.bool true),(77,.bool false),(79,.int .i64 B.length),(80,.int .i64 i)] [(3,some [.int .i64 k0,.str s0,.int .i64 i0])] [])=aC G0 eO (ST [(0,.sl .no 3 (tks B)),(3,.loc 3 0),(9,.bool false),(34,.bool false),(45,.bool false),(62,.bool true),(77,.bool false),(79,.int .i64 B.length),(80,.int .i64 ((i+1:Nat):Int))] [(3,some [.int .i64 k0,.str s0,.int .i64 i0])] []):=by
   intro hc;rw[ec] at hc
   conv=>lhs;rw[aA (L:=eO) rfl]
   cases ht:aW (kk,s,id) with
   | false =>
    rw[ht] at c65;simp only[go_sem,h4,h0,hr,hw,c65]
   | true =>
    rw[ht] at c65 hc;by_cases h1:id=i0
    ·subst h1
     simp only[decide_true,Bool.true_and,Bool.not_eq_false',Bool.and_eq_true,decide_eq_true_eq,beq_iff_eq] at hc;obtain⟨⟨rfl,rfl⟩,h3⟩:=hc;have c64:=c64 s (hm rfl);rw[h3] at c64;have e:(s0 != s0)=false:=by simp
     simp only[go_sem,h4,h0,hr,hw,c65,c64,e]
    ·simp only[go_sem,h4,h0,hr,hw,c65,h1]
  cases hc:bZ (k0,s0,i0) (kk,s,id) with
  | false =>
   rw[step hc,Bool.false_or];exact ih
  | true =>
   rw[Bool.true_or];refine⟨fun q=>(by cases q),fun _=>?_⟩;rw[ec] at hc;simp only[Bool.and_eq_true,decide_eq_true_eq,Bool.not_eq_true'] at hc;obtain⟨⟨ht,rfl⟩,hx⟩:=hc;rw[ht] at c65;by_cases h1:k0=3
   ·subst h1
    by_cases h2:kk=2
    ·subst h2
     have c64:=c64 s (hm rfl);simp only[decide_true,Bool.true_and,beq_eq_false_iff_ne] at hx;have e:(aQ s != s0)=true:=by simp [hx]
     refine Exists.intro ?_ (Exists.intro ?_ (And.intro ?_ ?_))
     rotate_left 2
     ·rw[aA (L:=eO) rfl]
      simp only[go_sem,h4,h0,hr,hw,c65,c64,e];rfl
     ·rfl
    ·refine Exists.intro ?_ (Exists.intro ?_ (And.intro ?_ ?_))
     rotate_left 2
     ·rw[aA (L:=eO) rfl]
      simp only[go_sem,h4,h0,hr,hw,c65,h2];rfl
     ·rfl
   ·refine Exists.intro ?_ (Exists.intro ?_ (And.intro ?_ ?_))
    rotate_left 2
    ·rw[aA (L:=eO) rfl]
     simp only[go_sem,h4,h0,hr,hw,c65,h1];rfl
    ·rfl
theorem c48 (B:List Tk) (hl:B.length<=1000000) (hb:∀ t∈B,t.1=2->t.2.1.length<=1000000) (k:Int) (s:Bs) (id:Int):G0 38 [.sl .no 3 (tks B),.agg [.int .i64 k,.str s,.int .i64 id]] []=some (.int .i64 (chk B (k,s,id)),[]):=by
 refine aB F38 rfl rfl rfl ?_;have z0:((([]:Bs) == ([]:Bs))=true):=rfl;have ec:((0:Nat):Int)=0:=rfl;by_cases k1:k=1
 ·subst k1
  by_cases h1:s=[]
  ·subst h1
   have e:chk B (1,[],id)=1:=by simp [chk]
   rw[e];simp only[F38,go_sem,z0]
  by_cases h2:id=0
  ·subst h2
   rcases d5 B with rfl | ⟨A,Y,rfl⟩
   ·have e:chk [] (1,s,0)=0:=by simp [chk,h1,fD]
    rw[e];simp only[F38,go_sem,lW h1,dZ,Int.lt_irrefl]
   ·have hll:((tks (A++[Y])).length:Int)=((A.length+1:Nat):Int):=by rw[aE];simp
    have p0:(0:Int) < ((A.length+1:Nat):Int):=by omega
    have hl2:A.length<=1000000:=by simp at hl;omega
    have w1:IntKind.i64.wrap (((A.length+1:Nat):Int) - 1)=(A.length:Int):=by rw[w64 (by omega) (by omega)];omega
    have hg:(A++[Y])[A.length]?=some Y:=by simp
    have hr:=bU hg;have hK:=dH A Y;have j0:(0:Int)<=(A.length:Int):=by omega
    by_cases h3:Y.1=1
    ·have e:chk (A++[Y]) (1,s,0)=1:=by simp [chk,hK,h3]
     rw[e];simp only[F38,go_sem,lW h1,hll,p0,w1,j0,hr,h3]
    ·have e:chk (A++[Y]) (1,s,0)=0:=by simp [chk,hK,h3,h1]
     rw[e];simp only[F38,go_sem,lW h1,hll,p0,w1,j0,hr,h3]
  ·have e:chk B (1,s,id)=1:=by simp [chk,h2]
   rw[e];simp only[F38,go_sem,lW h1,h2]
 by_cases k5:k=5
 ·subst k5
  have h74:=c74 s;cases hn:eF s with
  | false =>
   rw[hn] at h74;have e:chk B (5,s,id)=1:=by simp [chk,hn]
   rw[e];simp only[F38,go_sem,h74]
  | true =>
   rw[hn] at h74;by_cases h2:id=0
   ·have e:chk B (5,s,id)=0:=by simp [chk,hn,h2]
    rw[e];simp only[F38,go_sem,h74,h2]
   ·have e:chk B (5,s,id)=1:=by simp [chk,hn,h2]
    rw[e];simp only[F38,go_sem,h74,h2]
 by_cases k2:k=2\/k=4
 ·have h75:=c75 s
  obtain⟨x1,x2⟩:=P2 B hl hb k s id B.length 0 (by omega);rw[drop_zero,ec] at x1 x2;cases hn:isC s with
  | false =>
   rw[hn] at h75;have e:chk B (k,s,id)=1:=by rcases k2 with rfl | rfl<;>simp [chk,hn]
   rw[e];rcases k2 with rfl | rfl
   ·simp only[F38,go_sem,h75]
   ·simp only[F38,go_sem,h75]
  | true =>
   rw[hn] at h75;by_cases h2:id < 1
   ·have e:chk B (k,s,id)=1:=by rcases k2 with rfl | rfl<;>(simp [chk,hn];omega)
    rw[e];rcases k2 with rfl | rfl
    ·simp only[F38,go_sem,h75,h2]
    ·simp only[F38,go_sem,h75,h2]
   ·by_cases h3:999 < id
    ·have e:chk B (k,s,id)=1:=by rcases k2 with rfl | rfl<;>(simp [chk,hn];omega)
     rw[e];rcases k2 with rfl | rfl
     ·simp only[F38,go_sem,h75,h2,h3]
     ·simp only[F38,go_sem,h75,h2,h3]
    ·have q1:1<=id:=by omega
     have q2:id<=999:=by omega
     have e:chk B (k,s,id)=oQ B (k,s,id):=by rcases k2 with rfl | rfl<;>simp [chk,hn,q1,q2]
     rw[e];unfold oQ;cases ha:B.any (bZ (k,s,id)) with
     | false =>
      have y:=x1 ha;rcases k2 with rfl | rfl
      ·simp only[F38,go_sem,h75,h2,h3,aE,y]
      ·simp only[F38,go_sem,h75,h2,h3,aE,y]
     | true =>
      obtain⟨l',m',y1,y2⟩:=x2 ha;rcases k2 with rfl | rfl
      ·simp only[F38,go_sem,h75,h2,h3,aE,y1,y2]
      ·simp only[F38,go_sem,h75,h2,h3,aE,y1,y2]
 have k2':¬ k=2:=fun q=>k2 (.inl q)
 have k4':¬ k=4:=fun q=>k2 (.inr q)
 by_cases k3:k=3
 ·subst k3
  have h74:=c74 s;obtain⟨x1,x2⟩:=PZ B hl hb 3 s id B.length 0 (by omega);rw[drop_zero,ec] at x1 x2;cases hn:eF s with
  | false =>
   rw[hn] at h74;have e:chk B (3,s,id)=1:=by simp [chk,hn]
   rw[e];simp only[F38,go_sem,h74]
  | true =>
   rw[hn] at h74;by_cases h2:id < 1
   ·have e:chk B (3,s,id)=1:=by simp [chk,hn];omega
    rw[e];simp only[F38,go_sem,h74,h2]
   ·by_cases h3:999 < id
    ·have e:chk B (3,s,id)=1:=by simp [chk,hn];omega
     rw[e];simp only[F38,go_sem,h74,h2,h3]
    ·have q1:1<=id:=by omega
     have q2:id<=999:=by omega
     have e:chk B (3,s,id)=oQ B (3,s,id):=by simp [chk,hn,q1,q2]
     rw[e];unfold oQ;cases ha:B.any (bZ (3,s,id)) with
     | false =>
      have y:=x1 ha;simp only[F38,go_sem,h74,h2,h3,aE,y]
     | true =>
      obtain⟨l',m',y1,y2⟩:=x2 ha;simp only[F38,go_sem,h74,h2,h3,aE,y1,y2]
 ·have e:chk B (k,s,id)=1:=by simp [chk,k1,k5,k2',k4',k3]
  rw[e];simp only[F38,go_sem,k1,k5,k2',k4',k3]
theorem HM {f:List Tk} {x:Tk} (h:chk f x=0) (hx:x.1=2):x.2.1.length<=1000000:=by
 obtain⟨k,s,i⟩:=x;simp only[] at hx;subst hx;have hc:isC s=true:=by
  cases q:isC s with
  | true=>rfl
  | false=>simp [chk,q] at h
 unfold isC at hc;simp only[Bool.and_eq_true,decide_eq_true_eq] at hc
 have:=hc.1.1.1.1
 simp only[];omega
theorem D2 {f:List Tk} (h:VL f):∀ t∈f,t.1=2->t.2.1.length<=1000000:=by
 suffices ∀ (n:Nat) (f:List Tk),f.length=n->VL f->∀ t∈f,t.1=2->t.2.1.length<=1000000 from this _ f rfl h
 intro n
 induction n with
 | zero=>intro f hf _ t ht;rw[eq_nil_of_length_eq_zero hf] at ht;cases ht
 | succ n ih =>
  intro f hf hv t ht h2;rcases d5 f with rfl | ⟨g,y,rfl⟩
  ·cases ht
  ·obtain⟨a,b⟩:=(cU g y).1 hv
   rcases mem_append.1 ht with q | q
   ·exact ih g (by simp at hf;exact hf) a t q h2
   ·simp only[mem_singleton] at q;subst q;exact HM b h2
theorem mI {f:List Tk} {i:Nat} {t:Tk} (h:f[i]?=some t):f.take (i+1)=f.take i++[t]:=by
 have hi:i < f.length:=by
  by_cases q:i < f.length
  ·exact q
  ·rw[getElem?_eq_none (by omega)] at h;cases h
 rw[getElem?_eq_getElem hi] at h;simp only[Option.some.injEq] at h;rw[take_succ_eq_append_getElem hi,h]
theorem rN {f:List Tk} {i:Nat} {t:Tk} (h:f[i]?=some t):dB (f.take i) (f.drop i)=if chk (f.take i) t≠0 then chk (f.take i) t else dB (f.take (i+1)) (f.drop (i+1)):=by
 have hi:i < f.length:=by
  by_cases q:i < f.length
  ·exact q
  ·rw[getElem?_eq_none (by omega)] at h;cases h
 have hd:f.drop i=f[i] :: f.drop (i+1):=drop_eq_getElem_cons hi;rw[mI h];rw[getElem?_eq_getElem hi] at h;simp only[Option.some.injEq] at h;rw[hd,h];rfl
theorem tE {f:List Tk} {i:Nat} {t:Tk} (h:f[i]?=some t) (hv:VL (f.take i)) (hc:chk (f.take i) t=0):VL (f.take (i+1)):=by
 rw[mI h];exact (cU _ _).2 ⟨hv,hc⟩
theorem A0 (f:List Tk) (i:Nat):(tks f).take i=tks (f.take i):=by simp [tks,map_take]
theorem nW (f:List Tk) (i:Nat) (hi:i<=f.length):b8 false 3 (.sl .no 3 (tks f)) none (some (.int .i64 (i:Int)))=some (.sl .no 3 (tks (f.take i))):=by
 unfold b8 cR rD;have h0:(0:Int)<=(i:Int):=by omega
 have h1:(0:Nat)<=i/\i<=(tks f).length/\((3:Nat)=3\/tks f=[]):=⟨by omega,by rw[aE];exact hi,.inl rfl⟩
 simp only[h0,if_true,Int.toNat_natCast];rw[if_pos ⟨h1.1,h1.2.1,.inl trivial⟩,drop_zero,A0]
theorem l46 (f:List Tk) (hl:f.length<=1000000):∀ (k i:Nat),i+k=f.length->VL (f.take i) ->
  (dB (f.take i) (f.drop i)=0->∃ l' m',aC G0 iJ (ST [(0,.sl .no 3 (tks f)),(12,.bool false),(13,.sl .no 3 (tks f)),(14,.int .i64 f.length),(15,.int .i64 i)] [] [])=some (.ex 0,ST l' m' [])) /\
  (dB (f.take i) (f.drop i)≠0->∃ l' m',aC G0 iJ (ST [(0,.sl .no 3 (tks f)),(12,.bool false),(13,.sl .no 3 (tks f)),(14,.int .i64 f.length),(15,.int .i64 i)] [] [])=some (.ret,ST l' m' [])/\aF .any l' 2=.int .i64 (dB (f.take i) (f.drop i)))
 | 0,i,h,hv=>by
  have:i=f.length:=by omega
  subst this;refine⟨fun _=>?_,fun h=>(by simp [dB] at h)⟩;refine Exists.intro ?_ (Exists.intro ?_ ?_)
  rotate_left 2
  rw[aA (L:=iJ) rfl];simp only[go_sem,Int.lt_irrefl];rfl
 | k+1,i,h,hv=>by
  have hi:i < f.length:=by omega
  have h4:(i:Int) < (f.length:Int):=by omega
  have h0:(0:Int)<=(i:Int):=by omega
  have hw:=wI (i:=i) (by omega)
  have hg:f[i]?=some f[i]:=getElem?_eq_getElem hi;generalize f[i]=T at hg;have hr:=bU hg;obtain⟨kk,s,id⟩:=T;simp only[] at hr;have c68:=c68 f hl i kk s id hg;have c69:=c69 kk s id;have c70:=c70 (f.take i) (by simp;omega) (D2 hv) kk s id;have hsl:=nW f i (by omega);have ih:=fun hv=>l46 f hl k (i+1) (by omega) hv
  rw[rN hg];rw[l5] at *;cases hwf:wfB (f.take i) (kk,s,id) with
  | false =>
   rw[hwf] at c68;simp only[Bool.false_eq_true,if_false];refine⟨fun q=>(by simp at q),fun _=>?_⟩;refine Exists.intro ?_ (Exists.intro ?_ (And.intro ?_ ?_))
   rotate_left 2
   ·rw[aA (L:=iJ) rfl]
    simp only[go_sem,h4,h0,hr,hw,c68];rfl
   ·rfl
  | true =>
   rw[hwf] at c68;cases hT:aW (kk,s,id) with
   | false =>
    rw[hT] at c69;have h00:chk (f.take i) (kk,s,id)=0:=by rw[l5,hwf,hT];rfl
    simp only[if_true,Bool.false_eq_true,if_false,ne_eq,not_true_eq_false];have step:aC G0 iJ (ST [(0,.sl .no 3 (tks f)),(12,.bool false),(13,.sl .no 3 (tks f)),(14,.int .i64 f.length),(15,.int .i64 i)] [] [])=aC G0 iJ (ST [(0,.sl .no 3 (tks f)),(12,.bool false),(13,.sl .no 3 (tks f)),(14,.int .i64 f.length),(15,.int .i64 ((i+1:Nat):Int))] [] []):=by
     conv=>lhs;rw[aA (L:=iJ) rfl]
     simp only[go_sem,h4,h0,hr,hw,c68,c69]
    rw[step];exact ih (tE hg hv h00)
   | true =>
    rw[hT] at c69;cases hF:i9 (f.take i) (kk,s,id) with
    | true =>
     rw[hF] at c70;have h00:chk (f.take i) (kk,s,id)=0:=by rw[l5,hwf,hT,hF];rfl
     simp only[if_true,Bool.false_eq_true,if_false,ne_eq,not_true_eq_false];have step:aC G0 iJ (ST [(0,.sl .no 3 (tks f)),(12,.bool false),(13,.sl .no 3 (tks f)),(14,.int .i64 f.length),(15,.int .i64 i)] [] [])=aC G0 iJ (ST [(0,.sl .no 3 (tks f)),(12,.bool false),(13,.sl .no 3 (tks f)),(14,.int .i64 f.length),(15,.int .i64 ((i+1:Nat):Int))] [] []):=by
      conv=>lhs;rw[aA (L:=iJ) rfl]
      simp only[go_sem,h4,h0,hr,hw,c68,c69,hsl,c70]
     rw[step];exact ih (tE hg hv h00)
    | false =>
     rw[hF] at c70;simp only[if_true,Bool.false_eq_true,if_false,ne_eq];refine⟨fun q=>(by simp at q),fun _=>?_⟩;refine Exists.intro ?_ (Exists.intro ?_ (And.intro ?_ ?_))
     rotate_left 2
     ·rw[aA (L:=iJ) rfl]
      simp only[go_sem,h4,h0,hr,hw,c68,c69,hsl,c70];rfl
     ·rfl
theorem c46 (f:List Tk) (hl:f.length<=1000000) (hb:∀ t∈f,t.2.1.length<=dW):G0 19 [.sl .no 3 (tks f)] []=some (.int .i64 (vld f),[]):=by
 refine aB F19 rfl rfl rfl ?_;unfold vld;by_cases h1:512 < f.length
 ·have h1':(512:Int) < (f.length:Int):=by omega
  rw[if_pos (.inl h1)];simp only[F19,go_sem,aE,h1']
 have h1':¬ (512:Int) < (f.length:Int):=by omega
 have c67:=c67 f (by omega) hb;by_cases h2:1024 < len f
 ·have h2':(1024:Int) < (len f:Int):=by omega
  rw[if_pos (.inr h2)];simp only[F19,go_sem,aE,h1',c67,h2']
 have h2':¬ (1024:Int) < (len f:Int):=by omega
 rw[if_neg (by omega)];obtain⟨x1,x2⟩:=l46 f hl f.length 0 (by omega) rfl;have ec:((0:Nat):Int)=0:=rfl;rw[drop_zero,take_zero,ec] at x1 x2;by_cases h:dB [] f=0
 ·obtain⟨l',m',y⟩:=x1 h
  rw[h];simp only[F19,go_sem,aE,h1',c67,h2',y,dQ,eD,not_mem_nil,if_true,if_false]
 ·obtain⟨l',m',y1,y2⟩:=x2 h
  simp only[F19,go_sem,aE,h1',c67,h2',y1,y2]
theorem l21 (f:List Tk) (hl:f.length<=1000000):∀ (k i:Nat),i+k=f.length->VL (f.take i) ->
  (dB (f.take i) (f.drop i)=0->∃ l' m',aC G0 nN (ST [(0,.sl .no 3 (tks f)),(12,.bool false),(14,.int .i64 f.length),(15,.int .i64 i)] [] [])=some (.ex 0,ST l' m' [])) /\
  (dB (f.take i) (f.drop i)≠0->∃ l' m',aC G0 nN (ST [(0,.sl .no 3 (tks f)),(12,.bool false),(14,.int .i64 f.length),(15,.int .i64 i)] [] [])=some (.ret,ST l' m' [])/\aF .any l' 2=.int .i64 (dB (f.take i) (f.drop i)))
 | 0,i,h,hv=>by
  have:i=f.length:=by omega
  subst this;refine⟨fun _=>?_,fun h=>(by simp [dB] at h)⟩;refine Exists.intro ?_ (Exists.intro ?_ ?_)
  rotate_left 2
  rw[aA (L:=nN) rfl];simp only[go_sem,Int.lt_irrefl];rfl
 | k+1,i,h,hv=>by
  have hi:i < f.length:=by omega
  have h4:(i:Int) < (f.length:Int):=by omega
  have h0:(0:Int)<=(i:Int):=by omega
  have hw:=wI (i:=i) (by omega)
  have hg:f[i]?=some f[i]:=getElem?_eq_getElem hi;generalize f[i]=T at hg;have hr:=bU hg;obtain⟨kk,s,id⟩:=T;simp only[] at hr;have c48:=c48 (f.take i) (by simp;omega) (D2 hv) kk s id;have hsl:=nW f i (by omega);have ih:=fun hv=>l21 f hl k (i+1) (by omega) hv
  rw[rN hg];by_cases hc:chk (f.take i) (kk,s,id)=0
  ·simp only[hc,ne_eq,not_true_eq_false,if_false]
   have step:aC G0 nN (ST [(0,.sl .no 3 (tks f)),(12,.bool false),(14,.int .i64 f.length),(15,.int .i64 i)] [] [])=aC G0 nN (ST [(0,.sl .no 3 (tks f)),(12,.bool false),(14,.int .i64 f.length),(15,.int .i64 ((i+1:Nat):Int))] [] []):=by
    conv=>lhs;rw[aA (L:=nN) rfl]
    rw[hc] at c48;simp only[go_sem,h4,h0,hr,hw,hsl,c48]
   rw[step];exact ih (tE hg hv hc)
  ·rw[if_pos hc]
   refine⟨fun q=>absurd q hc,fun _=>?_⟩;refine Exists.intro ?_ (Exists.intro ?_ (And.intro ?_ ?_))
   rotate_left 2
   ·rw[aA (L:=nN) rfl]
    simp only[go_sem,h4,h0,hr,hw,hsl,c48,hc];rfl
   ·rfl
theorem c21 (f:List Tk) (hl:f.length<=1000000) (hb:∀ t∈f,t.2.1.length<=dW):G0 22 [.sl .no 3 (tks f)] []=some (.int .i64 (vld f),[]):=by
 refine aB F22 rfl rfl rfl ?_;unfold vld;by_cases h1:512 < f.length
 ·have h1':(512:Int) < (f.length:Int):=by omega
  rw[if_pos (.inl h1)];simp only[F22,go_sem,aE,h1']
 have h1':¬ (512:Int) < (f.length:Int):=by omega
 have c15:=c15 f (by omega) hb;by_cases h2:1024 < len f
 ·have h2':(1024:Int) < (len f:Int):=by omega
  rw[if_pos (.inr h2)];simp only[F22,go_sem,aE,h1',c15,h2']
 have h2':¬ (1024:Int) < (len f:Int):=by omega
 rw[if_neg (by omega)];obtain⟨x1,x2⟩:=l21 f hl f.length 0 (by omega) rfl;have ec:((0:Nat):Int)=0:=rfl;rw[drop_zero,take_zero,ec] at x1 x2;by_cases h:dB [] f=0
 ·obtain⟨l',m',y⟩:=x1 h
  rw[h];simp only[F22,go_sem,aE,h1',c15,h2',y,dQ,eD,not_mem_nil,if_true,if_false]
 ·obtain⟨l',m',y1,y2⟩:=x2 h
  simp only[F22,go_sem,aE,h1',c15,h2',y1,y2]
end Go.Av
namespace Go.Av
open Go.Nt
set_option maxHeartbeats 8000000
def bcl (b:Bs):List AV:=b.map fun c=>.int .u8 (c.toNat:Int)
theorem tB (b:Bs):(bcl b).length=b.length:=by simp [bcl]
theorem H2 (a b:Bs):bcl (a++b)=bcl a++bcl b:=by simp [bcl]
theorem u6:∀ b:Bs,(bcl b).all fC=true
 | []=>rfl
 | c :: b=>by
  show (fC _ && (bcl b).all fC)=true;rw[u6 b];rfl
theorem H1:∀ b:Bs,bV (bcl b)=true
 | []=>rfl
 | c :: b=>rfl
theorem tW (b:Bs):(aM b).flatten=bcl b:=by
 induction b with
 | nil=>rfl
 | cons c b ih =>
  show [AV.int .u8 (c.toNat:Int)]++(aM b).flatten=AV.int .u8 (c.toNat:Int) :: bcl b;rw[ih];rfl
theorem dX (b:Bs):(aM b).length=b.length:=by simp [aM]
def BSt (v:AV) (sh:LL) (b:Bs):Prop:=
 (b=[]/\v=.sl .full 1 []/\sh=[])\/(∃ D:LL,v=.ss D.length 0 b.length 1/\sh=D++[bcl b])
theorem BSt.scrub {v:AV} {sh:LL} {b:Bs} (h:BSt v sh b) (k:List Nat):aS k v=v:=by
 rcases h with ⟨_,rfl,_⟩ | ⟨D,rfl,_⟩<;>rfl
theorem BSt.dem {v:AV} {sh:LL} {b:Bs} (h:BSt v sh b):aH v=v:=by
 rcases h with ⟨_,rfl,_⟩ | ⟨D,rfl,_⟩<;>rfl
theorem BSt.arg {v:AV} {sh:LL} {b:Bs} (h:BSt v sh b):d9 true v=true:=by
 rcases h with ⟨_,rfl,_⟩ | ⟨D,rfl,_⟩<;>rfl
theorem DX {v:AV} {sh:LL} {b:Bs} (h:BSt v sh b) (r:Bs) (hr:r≠[]) (hl:b.length+r.length<=1000000):∃ v' sh',BSt v' sh' (b++r)/\gE 1 1 sh (some (aM r)) v=some (v',sh'):=by
 have ha:cK 1 (b.length+r.length)=true:=bD (by decide) (by omega);rcases h with ⟨rfl,rfl,rfl⟩ | ⟨D,rfl,rfl⟩
 ·cases r with
  | nil=>exact absurd rfl hr
  | cons c r =>
   refine⟨.ss 0 0 (c :: r).length 1,[bcl (c :: r)],.inr ⟨[],by simp,by simp⟩,?_⟩;have e:aM (c :: r)=[AV.int .u8 (c.toNat:Int)] :: aM r:=rfl;have e2:=tW (c :: r);rw[e] at e2 ⊢;simp only[length_nil,length_cons,Nat.zero_add] at ha;rw[rS 1 1 1 (by decide),dX,if_pos ha,e2];rfl
 ·refine⟨.ss (D++[bJ]).length 0 (b++r).length 1,(D++[bJ])++[bcl (b++r)],.inr ⟨D++[bJ],rfl,rfl⟩,?_⟩
  rw[u9 D.length b.length 1 1 (by decide),dX,if_pos ha,gD];simp only[Option.bind_some];rw[if_pos ⟨H1 b,by rw[tB];omega,u6 b⟩,tW,sD,H2,length_append,length_append,length_append];rfl
theorem jE:∀ b:Bs,aZ (aM b)=some b
 | []=>rfl
 | c :: b=>by
  have e:aM (c :: b)=[AV.int .u8 (c.toNat:Int)] :: aM b:=rfl;rw[e];simp only[aZ,qB,jE b,Int.toNat_natCast];simp
theorem zW (b:Bs):cN 0 b.length 1 (bcl b)=some (aM b):=by
 have h1:∀ b:Bs,(bcl b).all (fun x=>a8 (aH x))=true:=by
  intro b
  induction b with
  | nil=>rfl
  | cons c b ih =>
   show (a8 _ && (bcl b).all _)=true;rw[ih];rfl
 have h2:∀ b:Bs,(bcl b).map aH=bcl b:=by
  intro b
  induction b with
  | nil=>rfl
  | cons c b ih =>
   show aH _ :: (bcl b).map aH=_;rw[ih];rfl
 have h3:∀ b:Bs,cH 1 b.length (bcl b)=aM b:=by
  intro b
  induction b with
  | nil=>rfl
  | cons c b ih =>
   show (bcl (c :: b)).take 1 :: cH 1 b.length ((bcl (c :: b)).drop 1)=_;have e:(bcl (c :: b)).drop 1=bcl b:=rfl;rw[e,ih];rfl
 unfold cN;have h4:((bcl b).drop 0).take (b.length*1)=bcl b:=by rw[drop_zero];exact take_of_length_le (by rw[tB];omega)
 rw[h4,h2,h3,if_pos ⟨by decide,by rw[tB];omega,h1 b⟩]
theorem BSt.str {v:AV} {sh:LL} {b:Bs} (h:BSt v sh b):AM sh v=some (.str b):=by
 rcases h with ⟨rfl,rfl,rfl⟩ | ⟨D,rfl,rfl⟩
 ·rfl
 ·rw[H3,gD]
  simp only[Option.bind_some,zW,jE,Option.map_some]
theorem wS (c:UInt8):(wrt c).length<=4:=by
 have:=gW (fun c=>decide ((wrt c).length<=4)) (by decide) c
 simpa using this
theorem AT (s:Bs):(s.flatMap wrt).length<=4*s.length:=by
 induction s with
 | nil=>simp
 | cons c s ih=>rw[flatMap_cons,length_append,length_cons];have:=wS c;omega
theorem uE (x y:Int):fY 1 [.int .u8 0] 2 [0,1] [.int .u8 x,.int .u8 y]=some (.sl .full 1 [[.int .u8 x],[.int .u8 y]]):=rfl
theorem PG (x y z t:Int):fY 1 [.int .u8 0] 4 [0,1,2,3] [.int .u8 x,.int .u8 y,.int .u8 z,.int .u8 t]=some (.sl .full 1 [[.int .u8 x],[.int .u8 y],[.int .u8 z],[.int .u8 t]]):=rfl
theorem l51 (s:Bs) (hs:s.length<=100000):∀ (r p b:Bs) (v:AV) (sh:LL),s=p++r->BSt v sh b->b.length+4*r.length<=1000000 ->
  ∃ v' sh',BSt v' sh' (b++r.flatMap wrt)/\aC G0 j6 (ST [(0,v),(1,.str s),(5,.int .i64 p.length)] [] sh)=some (.ex 0,ST [(0,v'),(1,.str s),(5,.int .i64 s.length),(10,.bool false)] [] sh')
 | [],p,b,v,sh,h,hst,hl=>by
  have h:s=p:=by simp [h]
  subst h;refine⟨v,sh,by simpa using hst,?_⟩;have hs1:=hst.scrub;rw[aA (L:=j6) rfl];simp only[go_sem,hs1,Int.lt_irrefl]
 | c :: r,p,b,v,sh,h,hst,hl=>by
  have hll:s.length=p.length+1+r.length:=by simp [h];omega
  have h4:(p.length:Int) < (s.length:Int):=by omega
  have h0:(0:Int)<=(p.length:Int):=by omega
  have h5:s[p.length]?=some c:=by rw[h];simp
  have hw:IntKind.i64.wrap ((p.length:Int)+1)=((p.length+1:Nat):Int):=by rw[w64 (by omega) (by omega)];rfl
  simp only[length_cons] at hl;have hwl:=wS c;obtain⟨v1,sh1,q1,q2⟩:=DX hst (wrt c) (JN c) (by omega);obtain⟨v',sh',q3,q4⟩:=l51 s hs r (p++[c]) (b++wrt c) v1 sh1 (by simp [h]) q1 (by rw[length_append];omega);refine⟨v',sh',by rw[flatMap_cons,<- append_assoc];exact q3,?_⟩;have e1:((p++[c]).length:Int)=((p.length+1:Nat):Int):=by simp
  rw[e1] at q4;have hs0:=hst.scrub;have hs1:=q1.scrub;have hd0:=hst.dem;have hd1:=q1.dem;have c77:=VQ c;cases hp:plain c with
  | true =>
   rw[hp] at c77;rw[qY c hp] at q2;have q2:gE 1 1 sh (some [[AV.int .u8 (c.toNat:Int)]]) v=some (v1,sh1):=q2;rw[aA (L:=j6) rfl];simp only[go_sem,h4,h0,h5,hw,c77,hs0,hs1,hd0,hd1,PH,q2];exact q4
  | false =>
   rw[hp] at c77;have e10:(c.toNat:Int)=10↔c=10:=by rw[<- UInt8.toNat_inj];show _↔c.toNat=10;omega
   have e9:(c.toNat:Int)=9↔c=9:=by rw[<- UInt8.toNat_inj];show _↔c.toNat=9;omega
   have e92:(c.toNat:Int)=92↔c=92:=by rw[<- UInt8.toNat_inj];show _↔c.toNat=92;omega
   have e60:(c.toNat:Int)=60↔c=60:=by rw[<- UInt8.toNat_inj];show _↔c.toNat=60;omega
   have e123:(c.toNat:Int)=123↔c=123:=by rw[<- UInt8.toNat_inj];show _↔c.toNat=123;omega
   by_cases k1:c=10
   ·subst k1
    have n1:(((10:UInt8).toNat:Nat):Int)=10:=rfl;have q2:gE 1 1 sh (some [[AV.int .u8 92],[AV.int .u8 110]]) v=some (v1,sh1):=q2;rw[aA (L:=j6) rfl];rw[n1] at c77;simp only[go_sem,h4,h0,h5,hw,n1,c77,hs0,hs1,hd0,hd1,uE,q2];exact q4
   have k1':¬ (c.toNat:Int)=10:=fun q=>k1 (e10.1 q)
   by_cases k2:c=9
   ·subst k2
    have n1:(((9:UInt8).toNat:Nat):Int)=9:=rfl;have q2:gE 1 1 sh (some [[AV.int .u8 92],[AV.int .u8 116]]) v=some (v1,sh1):=q2;rw[aA (L:=j6) rfl];rw[n1] at c77;simp only[go_sem,h4,h0,h5,hw,n1,c77,hs0,hs1,hd0,hd1,uE,q2];exact q4
   have k2':¬ (c.toNat:Int)=9:=fun q=>k2 (e9.1 q)
   by_cases k3:c=92\/c=60\/c=123
   ·have ew:wrt c=[92,c]:=by unfold wrt;rw[if_pos k3]
    rw[ew] at q2;have q2:gE 1 1 sh (some [[AV.int .u8 92],[AV.int .u8 (c.toNat:Int)]]) v=some (v1,sh1):=q2;rcases k3 with k3 | k3 | k3
    ·have k3':=e92.2 k3
     rw[k3'] at q2 c77;rw[aA (L:=j6) rfl];simp only[go_sem,h4,h0,h5,hw,c77,k3',hs0,hs1,hd0,hd1,uE,q2];exact q4
    ·have k3':=e60.2 k3
     rw[k3'] at q2 c77;rw[aA (L:=j6) rfl];simp only[go_sem,h4,h0,h5,hw,c77,k3',hs0,hs1,hd0,hd1,uE,q2];exact q4
    ·have k3':=e123.2 k3
     rw[k3'] at q2 c77;rw[aA (L:=j6) rfl];simp only[go_sem,h4,h0,h5,hw,c77,k3',hs0,hs1,hd0,hd1,uE,q2];exact q4
   ·have k31:¬ (c.toNat:Int)=92:=fun q=>k3 (.inl (e92.1 q))
    have k32:¬ (c.toNat:Int)=60:=fun q=>k3 (.inr (.inl (e60.1 q)))
    have k33:¬ (c.toNat:Int)=123:=fun q=>k3 (.inr (.inr (e123.1 q)))
    have h4x:c=13\/ctl c=true:=by
     have:=gW (fun c=>plain c || decide (c=92) || decide (c=60) || decide (c=123) || decide (c=10) || decide (c=9) || decide (c=13) || ctl c) (by decide) c
     simp only[hp,Bool.false_or,Bool.or_eq_true,decide_eq_true_eq] at this;rcases this with (((((h | h) | h) | h) | h) | h) | h
     ·exact absurd (.inl h) k3
     ·exact absurd (.inr (.inl h)) k3
     ·exact absurd (.inr (.inr h)) k3
     ·exact absurd h k1
     ·exact absurd h k2
     ·exact .inl h
     ·exact .inr h
    have ew:=QH c h4x;rw[ew] at q2;have q2:gE 1 1 sh (some [[AV.int .u8 92],[AV.int .u8 120],[AV.int .u8 ((qN (c.toNat / 16)).toNat:Int)],[AV.int .u8 ((qN (c.toNat % 16)).toNat:Int)]]) v=some (v1,sh1):=q2;have hlt:=c.toNat_lt;have a1:((c.toNat:Int)).fdiv (2 ^ (min 4 8))=((c.toNat / 16:Nat):Int):=by
     have:(2:Int) ^ (min 4 8)=16:=rfl
     rw[this,Int.fdiv_eq_ediv_of_nonneg _ (by omega)];omega
    have a2:IntKind.u8.wrap ((((c.toNat:Int) % 2 ^ 8).toNat &&& ((15:Int) % 2 ^ 8).toNat:Nat):Int)=((c.toNat % 16:Nat):Int):=by
     have e:(2:Int) ^ 8=256:=rfl;have e2:((15:Int) % 256).toNat=2 ^ 4 - 1:=rfl;have e3:((c.toNat:Int) % 256).toNat=c.toNat:=by omega
     rw[e,e2,e3,Nat.and_two_pow_sub_one_eq_mod,wu8 (by omega) (by omega)]
    have b0:(0:Int)<=((c.toNat / 16:Nat):Int):=by omega
    have b1:(0:Int)<=((c.toNat % 16:Nat):Int):=by omega
    have g1:=yL (n:=c.toNat / 16) (by omega);have g2:=yL (n:=c.toNat % 16) (by omega);simp only[LC] at g1 g2;rw[aA (L:=j6) rfl];simp only[go_sem,h4,h0,h5,hw,c77,k1',k2',k31,k32,k33,hs0,hs1,hd0,hd1,a1,a2,b0,b1,g1,g2,PG,q2];exact q4
theorem c51 {v:AV} {sh:LL} {b:Bs} (h:BSt v sh b) (s:Bs) (hs:s.length<=100000) (hl:b.length+4*s.length<=1000000):∃ v' sh',BSt v' sh' (b++s.flatMap wrt)/\G0 66 [v,.str s] sh=some (v',sh'):=by
 obtain⟨v',sh',q1,q2⟩:=l51 s hs s [] b v sh rfl h hl;have ec:((([]:Bs).length:Nat):Int)=0:=rfl;rw[ec] at q2;refine⟨v',sh',q1,?_⟩;refine aB F66 rfl rfl rfl ?_;have hs0:=h.scrub;have hs1:=q1.scrub;have hd1:=q1.dem;have hd0:=h.dem;simp only[F66,go_sem,hs0,hd0,q2,hs1,hd1];rcases q1 with ⟨_,rfl,rfl⟩ | ⟨D,rfl,rfl⟩
 ·simp only[go_sem]
 ·simp only[go_sem]
end Go.Av
namespace Go.Av
open Go.Nt
set_option maxHeartbeats 8000000
theorem mD (a b:Bs) (h:a.length+b.length<=140737488355328):dS .add (.str a) (.str b)=some (.str (a++b)):=by rw[DU,if_pos h]
theorem yO (n:Nat):(Nt.dec n).length<=3:=by unfold Nt.dec;split;simp;split<;>simp
theorem GX {s:Bs} (h:isC s=true):s.length<=64:=by
 unfold isC at h;simp only[Bool.and_eq_true,decide_eq_true_eq] at h;exact h.1.1.1.1
theorem pY {f:List Tk} {k:Int} {s:Bs} {i:Int} (h:chk f (k,s,i)=0):(k=1/\i=0)\/(s.length<=64/\0<=i/\i<=999/\(k=2\/k=3\/k=4\/k=5)):=by
 by_cases hk:k=1
 ·subst hk;exact .inl ⟨rfl,((fU (x:=(1,s,i)) rfl).1 h).2.1⟩
 ·rcases L1 h hk with ⟨h1,_⟩ | ⟨h1,h2,h3⟩ | ⟨h1,h2,h3,h4⟩ | ⟨h1,h2,h3,h4⟩
  ·exact absurd h1 hk
  ·simp only[] at h1 h2 h3
   have:=(uO h2).2.1
   exact .inr ⟨by omega,by omega,by omega,.inr (.inr (.inr h1))⟩
  ·simp only[] at h1 h2 h3 h4
   have:=GX h2
   exact .inr ⟨by omega,by omega,by omega,by rcases h1 with h1 | h1<;>simp [h1]⟩
  ·simp only[] at h1 h2 h3 h4
   have:=(uO h2).2.1
   exact .inr ⟨by omega,by omega,by omega,.inr (.inl h1)⟩
theorem yM {f:List Tk} {x:Tk} (h:chk f x=0):(elt x).length<=4*wid x+80:=by
 obtain⟨k,s,i⟩:=x;have hd:=yO i.toNat;rcases pY h with ⟨rfl,rfl⟩ | ⟨h1,_,_,h2⟩
 ·have:=AT s
  show (s.flatMap wrt).length<=4*s.length+80;omega
 ·rcases h2 with rfl | rfl | rfl | rfl
  ·simp [elt];omega
  ·simp [elt];omega
  ·simp [elt];omega
  ·simp [elt];omega
theorem HD {f:List Tk} (h:VL f):(fmt f).length<=4*len f+80*f.length:=by
 suffices ∀ (n:Nat) (f:List Tk),f.length=n->VL f->(fmt f).length<=4*len f+80*f.length from this _ f rfl h
 intro n
 induction n with
 | zero=>intro f hf _;rw[eq_nil_of_length_eq_zero hf];simp [fmt]
 | succ n ih =>
  intro f hf hv;rcases d5 f with rfl | ⟨g,y,rfl⟩
  ·simp [fmt]
  ·obtain⟨a,b⟩:=(cU g y).1 hv
   have h1:=ih g (by simp at hf;exact hf) a;have h2:=yM b;rw[HE,G9,iB,jM,length_append,length_append,length_singleton];omega
theorem EB {f:List Tk} (h:vld f=0):(fmt f).length<=50000:=by
 obtain⟨h1,h2,h3⟩:=(fE f).1 h
 have:=HD h1
 omega
theorem D3 {f:List Tk} (h:VL f) {i:Nat} {t:Tk} (hi:f[i]?=some t):chk (f.take i) t=0:=by
 have hs:=oV hi;unfold VL at h;rw[hs,show f.take i++t :: f.drop (i+1)=(f.take i++[t])++f.drop (i+1) by simp,pX] at h;by_cases q:dB [] (f.take i++[t])=0
 ·exact ((cU _ _).1 q).2
 ·rw[if_pos q] at h;exact absurd h q
theorem DB {f:List Tk} {i:Nat} {t:Tk} (hi:f[i]?=some t):fmt (f.drop i)=elt t++fmt (f.drop (i+1)):=by
 have h:i < f.length:=by
  by_cases q:i < f.length
  ·exact q
  ·rw[getElem?_eq_none (by omega)] at hi;cases hi
 rw[drop_eq_getElem_cons h];rw[getElem?_eq_getElem h] at hi;simp only[Option.some.injEq] at hi;rw[hi];simp [fmt]
theorem l32 (f:List Tk) (hl:f.length<=1000) (hv:VL f):∀ (k i:Nat) (b:Bs) (v:AV) (sh:LL),i+k=f.length->BSt v sh b->b.length+(fmt (f.drop i)).length<=500000->len f<=100000 ->
  ∃ v' sh',BSt v' sh' (b++fmt (f.drop i))/\aC G0 mF (ST [(4,.int .i64 0),(5,v),(12,.bool false),(14,.sl .no 3 (tks f)),(15,.int .i64 f.length),(16,.int .i64 i)] [] sh)=some (.ex 0,ST [(4,.int .i64 0),(5,v'),(12,.bool false),(14,.sl .no 3 (tks f)),(15,.int .i64 f.length),(16,.int .i64 f.length),(17,.bool false)] [] sh')
 | 0,i,b,v,sh,h,hst,hb,hL=>by
  have:i=f.length:=by omega
  subst this;refine⟨v,sh,by simpa [fmt] using hst,?_⟩;have hs1:=hst.scrub;rw[aA (L:=mF) rfl];simp only[go_sem,hs1,Int.lt_irrefl]
 | k+1,i,b,v,sh,h,hst,hb,hL=>by
  have hi:i < f.length:=by omega
  have h4:(i:Int) < (f.length:Int):=by omega
  have h0:(0:Int)<=(i:Int):=by omega
  have hw:=wI (i:=i) (by omega)
  have hg:f[i]?=some f[i]:=getElem?_eq_getElem hi;generalize f[i]=T at hg;have hr:=bU hg;have hc:=D3 hv hg;have he:=yM hc;rw[DB hg] at hb ⊢;rw[length_append] at hb;have hwl:wid T<=len f:=by
   have:=oV hg
   rw[this,iB,lQ];omega
  obtain⟨kk,s,id⟩:=T;simp only[] at hr;have hs0:=hst.scrub;have hd0:=hst.dem;have ha0:=hst.arg;have fin:∀ v1 sh1,BSt v1 sh1 (b++elt (kk,s,id))->∃ v' sh',BSt v' sh' (b++(elt (kk,s,id)++fmt (f.drop (i+1))))/\aC G0 mF (ST [(4,.int .i64 0),(5,v1),(12,.bool false),(14,.sl .no 3 (tks f)),(15,.int .i64 f.length),(16,.int .i64 ((i+1:Nat):Int))] [] sh1)=some (.ex 0,ST [(4,.int .i64 0),(5,v'),(12,.bool false),(14,.sl .no 3 (tks f)),(15,.int .i64 f.length),(16,.int .i64 f.length),(17,.bool false)] [] sh'):=by
   intro v1 sh1 q;obtain⟨v',sh',p1,p2⟩:=l32 f hl hv k (i+1) _ v1 sh1 (by omega) q (by rw[length_append];omega) hL;exact⟨v',sh',by rw[<- append_assoc];exact p1,p2⟩
  rcases pY hc with ⟨rfl,rfl⟩ | ⟨h64,i0,i1,hk⟩
  ·have hw2:wid (1,s,0)=s.length:=rfl
   have ee:elt (1,s,0)=s.flatMap wrt:=rfl;obtain⟨v1,sh1,q1,q2⟩:=c51 hst s (by omega) (by omega);obtain⟨v',sh',p1,p2⟩:=fin v1 sh1 q1;refine⟨v',sh',p1,?_⟩;have hs1:=q1.scrub;have hd1:=q1.dem;have h50:=c50 0 (by omega);have ec:((0:Nat):Int)=0:=rfl;rw[ec] at h50;rw[aA (L:=mF) rfl];simp only[go_sem,h4,h0,hr,hw,h50,q2,hs0,hd0,ha0,hs1,hd1];exact p2
  ·obtain⟨n,rfl⟩:=Int.eq_ofNat_of_zero_le i0
   have h50:=c50 n (by omega);have hd:=yO n;generalize hdn:Nt.dec n=d at hd h50;rcases hk with rfl | rfl | rfl | rfl
   ·have ee:elt (2,s,(n:Int))=[60]++d++[58]++s++[62]:=by simp [elt,hdn]
    obtain⟨v1,sh1,q1,q2⟩:=DX hst ([60]++d++[58]++s++[62]) (by simp) (by simp;omega);obtain⟨v',sh',p1,p2⟩:=fin v1 sh1 (by rw[ee];exact q1);refine⟨v',sh',p1,?_⟩;have hs1:=q1.scrub;have hd1:=q1.dem;have a1:=mD [60] d (by simp;omega);have a2:=mD ([60]++d) [58] (by simp;omega);have a3:=mD ([60]++d++[58]) s (by simp;omega);have a4:=mD ([60]++d++[58]++s) [62] (by simp;omega);generalize hX1:([60]++d:Bs)=X1 at *;generalize hX2:(X1++[58]:Bs)=X2 at *;generalize hX3:(X2++s:Bs)=X3 at *;generalize hX4:(X3++[62]:Bs)=X4 at *;rw[aA (L:=mF) rfl];simp only[a1,a2,a3,a4,go_sem,h4,h0,hr,hw,h50,q2,hs0,hd0,ha0,hs1,hd1];exact p2
   ·have ee:elt (3,s,(n:Int))=[60,47]++d++[58]++s++[62]:=by simp [elt,hdn]
    obtain⟨v1,sh1,q1,q2⟩:=DX hst ([60,47]++d++[58]++s++[62]) (by simp) (by simp;omega);obtain⟨v',sh',p1,p2⟩:=fin v1 sh1 (by rw[ee];exact q1);refine⟨v',sh',p1,?_⟩;have hs1:=q1.scrub;have hd1:=q1.dem;have a1:=mD [60,47] d (by simp;omega);have a2:=mD ([60,47]++d) [58] (by simp;omega);have a3:=mD ([60,47]++d++[58]) s (by simp;omega);have a4:=mD ([60,47]++d++[58]++s) [62] (by simp;omega);generalize hX1:([60,47]++d:Bs)=X1 at *;generalize hX2:(X1++[58]:Bs)=X2 at *;generalize hX3:(X2++s:Bs)=X3 at *;generalize hX4:(X3++[62]:Bs)=X4 at *;rw[aA (L:=mF) rfl];simp only[a1,a2,a3,a4,go_sem,h4,h0,hr,hw,h50,q2,hs0,hd0,ha0,hs1,hd1];exact p2
   ·have ee:elt (4,s,(n:Int))=[60]++d++[58]++s++[47,62]:=by simp [elt,hdn]
    obtain⟨v1,sh1,q1,q2⟩:=DX hst ([60]++d++[58]++s++[47,62]) (by simp) (by simp;omega);obtain⟨v',sh',p1,p2⟩:=fin v1 sh1 (by rw[ee];exact q1);refine⟨v',sh',p1,?_⟩;have hs1:=q1.scrub;have hd1:=q1.dem;have a1:=mD [60] d (by simp;omega);have a2:=mD ([60]++d) [58] (by simp;omega);have a3:=mD ([60]++d++[58]) s (by simp;omega);have a4:=mD ([60]++d++[58]++s) [47,62] (by simp;omega);generalize hX1:([60]++d:Bs)=X1 at *;generalize hX2:(X1++[58]:Bs)=X2 at *;generalize hX3:(X2++s:Bs)=X3 at *;generalize hX4:(X3++[47,62]:Bs)=X4 at *;rw[aA (L:=mF) rfl];simp only[a1,a2,a3,a4,go_sem,h4,h0,hr,hw,h50,q2,hs0,hd0,ha0,hs1,hd1];exact p2
   ·have ee:elt (5,s,(n:Int))=[123]++s++[125]:=by simp [elt]
    obtain⟨v1,sh1,q1,q2⟩:=DX hst ([123]++s++[125]) (by simp) (by simp;omega);obtain⟨v',sh',p1,p2⟩:=fin v1 sh1 (by rw[ee];exact q1);refine⟨v',sh',p1,?_⟩;have hs1:=q1.scrub;have hd1:=q1.dem;have a1:=mD [123] s (by simp;omega);have a2:=mD ([123]++s) [125] (by simp;omega);generalize hX1:([123]++s:Bs)=X1 at *;generalize hX2:(X1++[125]:Bs)=X2 at *;rw[aA (L:=mF) rfl];simp only[a1,a2,go_sem,h4,h0,hr,hw,h50,q2,hs0,hd0,ha0,hs1,hd1];exact p2
def HF (f:List Tk):Bs:=if vld f=0 then fmt f else []
theorem c32 (f:List Tk) (hl:f.length<=1000000) (hb:∀ t∈f,t.2.1.length<=dW):G0 42 [.sl .no 3 (tks f)] []=some (.tup [.str (HF f),.int .i64 (vld f)],[]):=by
 refine aB F42 rfl rfl rfl ?_;have h46:=c46 f hl hb;unfold HF;by_cases h:vld f=0
 ·rw[if_pos h,h]
  rw[h] at h46;obtain⟨h1,h2,h3⟩:=(fE f).1 h;have hf:=EB h;obtain⟨v',sh',q1,q2⟩:=l32 f (by omega) h1 f.length 0 [] (.sl .full 1 []) [] (by omega) (.inl ⟨rfl,rfl,rfl⟩) (by rw[drop_zero];simp only[length_nil];omega) (by omega);have ec:((0:Nat):Int)=0:=rfl;rw[drop_zero,nil_append] at q1;rw[ec] at q2;have hs1:=q1.scrub;have hd1:=q1.dem;have hq:=q1.str;have hsd:cZ [] sh'=true:=rfl;simp only[F42,go_sem,h46,aE,q2,hs1,hd1,hq,hsd]
 ·rw[if_neg h]
  simp only[F42,go_sem,h46,h]
end Go.Av
