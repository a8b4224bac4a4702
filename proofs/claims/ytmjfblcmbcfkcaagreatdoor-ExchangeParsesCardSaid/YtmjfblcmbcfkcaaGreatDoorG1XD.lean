/- Numbers, words and lines that a fragment is made of; joining texts: exactly what 'nrm' says. A fragment that is made of numbers is valid. The length of a fragment; the tests of an item; the first error of a fragment. The tests of an item and the first error of a fragment: the program's and the reference's. Writing a fragment: the program's and the reference's. Writing a fragment: items, and whole fragments. -/
import Derived.Test.YtmjfblcmbcfkcaaGreatDoorG1XC
import Derived.Test.YtmjfblcmbcfkcaaGreatDoorG1XA
open List
set_option linter.unusedSimpArgs false
set_option linter.unusedVariables false
set_option linter.unusedSectionVars false
set_option maxRecDepth 100000
set_option maxHeartbeats 16000000
namespace Go.Av
open Go.Nt
set_option maxHeartbeats 8000000
abbrev Tk:=Int × List UInt8 × Int
def tkR (t:Tk):List AV:=[.int .i64 t.1,.str t.2.1,.int .i64 t.2.2]
def tks (l:List Tk):List (List AV):=l.map tkR
theorem tks_len (l:List Tk):(tks l).length=l.length:=by simp [tks]
theorem tks_app (x y:List Tk):tks x++tks y=tks (x++y):=by simp [tks]
theorem tks_nil:tks []=[]:=rfl
theorem tks_at {l:List Tk} {i:Nat} {t:Tk} (h:l[i]?=some t):(tks l)[i]?=some [.int .i64 t.1,.str t.2.1,.int .i64 t.2.2]:=by simp [tks,tkR,h]
def strs (l:List (List UInt8)):List (List AV):=l.map fun s=>[.str s]
theorem strs_len (l:List (List UInt8)):(strs l).length=l.length:=by simp [strs]
theorem strs_at {l:List (List UInt8)} {i:Nat} {s:List UInt8} (h:l[i]?=some s):(strs l)[i]?=some [.str s]:=by simp [strs,h]
def ints (l:List Int):List (List AV):=l.map fun x=>[.int .i64 x]
theorem ints_length (l:List Int):(ints l).length=l.length:=by simp [ints]
theorem ints_at {l:List Int} {i:Nat} {x:Int} (h:l[i]?=some x):(ints l)[i]?=some [.int .i64 x]:=by simp [ints,h]
theorem ints_nil:ints []=[]:=rfl
def fl (l:List Tk):List AV:=(tks l).flatten
theorem fl_app (x y:List Tk):fl (x++y)=fl x++fl y:=by simp [fl,tks]
theorem fl_one (t:Tk):fl [t]=[.int .i64 t.1,.str t.2.1,.int .i64 t.2.2]:=rfl
theorem fl_cons (t:Tk) (l:List Tk):fl (t :: l)=.int .i64 t.1 :: .str t.2.1 :: .int .i64 t.2.2 :: fl l:=rfl
theorem fl_len:∀ l:List Tk,(fl l).length=l.length*3
 | []=>rfl
 | t :: l=>by rw[fl_cons];simp only[length_cons,fl_len l];omega
theorem fl_nown:∀ l:List Tk,(fl l).all nownB=true
 | []=>rfl
 | t :: l=>by rw[fl_cons];simp only[all_cons,fl_nown l,nownB,Bool.and_self]
theorem fl_blk (l:List Tk):blkB (fl l)=true:=by
 cases l with
 | nil=>rfl
 | cons a l=>rfl
theorem fl_at (o:List Tk) (t:Tk) (j:Nat):(fl (o++[t]))[o.length*3+j]?=[AV.int .i64 t.1,.str t.2.1,.int .i64 t.2.2][j]?:=by
 rw[fl_app,fl_one,getElem?_append_right (by rw[fl_len];omega),fl_len]
 congr 1;omega
theorem fl_put (o:List Tk) (t u:Tk):putL (o.length*3) [AV.int .i64 u.1,.str u.2.1,.int .i64 u.2.2] (fl (o++[t]))=some (fl (o++[u])):=by
 have:∀ (a:List AV),putL a.length [AV.int .i64 u.1,.str u.2.1,.int .i64 u.2.2] (a++[AV.int .i64 t.1,.str t.2.1,.int .i64 t.2.2])=some (a++[AV.int .i64 u.1,.str u.2.1,.int .i64 u.2.2]):=by
  intro a
  induction a with
  | nil=>rfl
  | cons x a ih=>simp only[length_cons,cons_append,putL_s,ih,Option.map_some]
 have h:=this (fl o);rw[fl_len] at h;rw[fl_app,fl_one,fl_app,fl_one];exact h
theorem rowsC_fl (l:List Tk):rowsC 0 l.length 3 (fl l)=some (tks l):=by
 have h1:∀ l:List Tk,(fl l).all (fun x=>flatB (demV x))=true:=by
  intro l
  induction l with
  | nil=>rfl
  | cons a l ih=>rw[fl_cons];simp only[all_cons,Bool.and_eq_true];exact⟨rfl,rfl,rfl,ih⟩
 have h2:∀ l:List Tk,(fl l).map demV=fl l:=by
  intro l
  induction l with
  | nil=>rfl
  | cons a l ih=>rw[fl_cons];simp only[map_cons,ih,demV]
 have h3:∀ l:List Tk,rowsOf 3 l.length (fl l)=tks l:=by
  intro l
  induction l with
  | nil=>rfl
  | cons a l ih=>rw[fl_cons];simp only[length_cons,rowsOf,take_succ_cons,take_zero,drop_succ_cons,drop_zero,ih];rfl
 unfold rowsC;have h4:((fl l).drop 0).take (l.length*3)=fl l:=by rw[drop_zero];exact take_of_length_le (by rw[fl_len];exact Nat.le_refl _)
 rw[h4,h2,h3,if_pos ⟨by decide,by rw[fl_len];omega,h1 l⟩]
def tot (l:List Tk):Nat:=(l.map fun t=>t.2.1.length).sum
theorem tot_nil:tot []=0:=rfl
theorem tot_cons (t:Tk) (l:List Tk):tot (t :: l)=t.2.1.length+tot l:=by simp [tot]
theorem tot_app (x y:List Tk):tot (x++y)=tot x+tot y:=by simp [tot]
theorem tot_pn (f:List It) (x:It):tot (pn f x)<=tot f+x.2.1.length/\(pn f x).length<=f.length+1:=by
 refine⟨?_,(len_pn f x).2⟩;unfold pn;by_cases h:x.1=1
 ·rw[if_pos h]
  split
  ·omega
  ·rcases put_text (f:=f) (x:=(1,x.2.1,0)) rfl with ⟨_,h2⟩ | ⟨g,y,rfl,hy,h2⟩
   ·rw[h2,tot_app];simp [tot]
   ·rw[h2,tot_app,tot_app];simp [tot];omega
 ·rw[if_neg h,tot_app];simp [tot]
def Stt (v:AV) (sh:LL) (out:List Tk):Prop:=
 (out=[]/\v=.sl .full 3 []/\sh=[])\/(∃ D o t,out=o++[t]/\v=.ss D.length 0 (o.length+1) 3/\sh=D++[fl (o++[t])])
theorem gD (D:LL) (c:List AV):(D++[c])[D.length]?=some c:=by simp
theorem sD (D:LL) (c x:List AV):(D++[c]).set D.length x=D++[x]:=by
 rw[set_append_right _ _ (Nat.le_refl _)];simp
theorem pn_empty {f:List It} {i:Int}:pn f (1,[],i)=f:=rfl
theorem pn_nt {f:List It} {k:Int} {s:Bs} {i:Int} (h:¬ k=1):pn f (k,s,i)=f++[(k,s,i)]:=by unfold pn;rw[if_neg h]
theorem pn_first {s:Bs} {i:Int} (h:s≠[]):pn [] (1,s,i)=[(1,s,0)]:=by simp [pn,h,Nt.put]
theorem pn_join {o:List It} {t:It} {s:Bs} {i:Int} (h:s≠[]) (ht:t.1=1):pn (o++[t]) (1,s,i)=o++[(1,t.2.1++s,0)]:=by simp [pn,h,Nt.put,ht]
theorem pn_new {o:List It} {t:It} {s:Bs} {i:Int} (h:s≠[]) (ht:¬ t.1=1):pn (o++[t]) (1,s,i)=o++[t]++[(1,s,0)]:=by simp [pn,h,Nt.put,ht]
theorem l57 (f:List Tk) (hf:f.length<=100000):∀ (k i:Nat) (out:List Tk) (v:AV) (sh:LL),i+k=f.length->out.length<=i->tot out+tot (f.drop i)<=1000000->Stt v sh out ->
  ∃ v' sh',Stt v' sh' ((f.drop i).foldl pn out) /\
   execX G0 L88_0 (ST [(0,.sl .no 3 (tks f)),(3,v),(8,.int .i64 f.length),(9,.int .i64 i)] [] sh)=some (.ex 0,ST [(0,.sl .no 3 (tks f)),(3,v'),(8,.int .i64 f.length),(9,.int .i64 f.length),(10,.bool false)] [] sh')
 | 0,i,out,v,sh,h1,h2,h3,hst=>by
  have:i=f.length:=by omega
  subst this;refine⟨v,sh,by rw[drop_of_length_le (Nat.le_refl _)];exact hst,?_⟩;rcases hst with ⟨rfl,rfl,rfl⟩ | ⟨D,o,t,rfl,rfl,rfl⟩
  ·rw[Y_loop (L:=L88_0) rfl]
   simp only[go_sem,Int.lt_irrefl]
  ·rw[Y_loop (L:=L88_0) rfl]
   simp only[go_sem,Int.lt_irrefl]
 | k+1,i,out,v,sh,h1,h2,h3,hst=>by
  have hi:i < f.length:=by omega
  have h4:(i:Int) < (f.length:Int):=by omega
  have h0:(0:Int)<=(i:Int):=by omega
  have hw:IntKind.i64.wrap ((i:Int)+1)=((i+1:Nat):Int):=by rw[w64 (by omega) (by omega)];rfl
  have hg:f[i]?=some f[i]:=getElem?_eq_getElem hi;have hd:f.drop i=f[i] :: f.drop (i+1):=drop_eq_getElem_cons hi;generalize f[i]=T at hg hd;have hr:=tks_at hg;obtain⟨kk,s,id⟩:=T;rw[hd] at h3 ⊢;rw[tot_cons] at h3;simp only[foldl_cons];simp only[] at h3;by_cases c1:kk=1
  ·by_cases c2:s=[]
   ·subst c1 c2
    rw[pn_empty];obtain⟨v',sh',p1,p4⟩:=l57 f hf k (i+1) out v sh (by omega) (by omega) (by simp only[length_nil] at h3;omega) hst;refine⟨v',sh',p1,?_⟩;rcases hst with ⟨rfl,rfl,rfl⟩ | ⟨D,o,t,rfl,rfl,rfl⟩
    ·rw[Y_loop (L:=L88_0) rfl]
     simp only[go_sem,h4,h0,hr,hw];exact p4
    ·rw[Y_loop (L:=L88_0) rfl]
     simp only[go_sem,h4,h0,hr,hw];exact p4
   ·subst c1
    have hne:(s == [])=false:=by simp [c2]
    rcases hst with ⟨rfl,rfl,rfl⟩ | ⟨D,o,t,rfl,rfl,rfl⟩
    ·rw[pn_first c2]
     obtain⟨v',sh',p1,p4⟩:=l57 f hf k (i+1) [(1,s,0)] (.ss 0 0 1 3) [fl [(1,s,0)]] (by omega) (by simp) (by simp only[tot_cons,tot_nil] at *;first | done | omega) (.inr ⟨[],[],(1,s,0),rfl,rfl,rfl⟩);refine⟨v',sh',p1,?_⟩;have ha:appOK 32 1=true:=appOK_le (by decide) (by decide);rw[Y_loop (L:=L88_0) rfl];simp only[go_sem,h4,h0,hr,hw,hne,ha,Int.lt_irrefl];exact p4
    ·have hpos:(0:Int) < ((o.length+1:Nat):Int):=by omega
     have hlt:((o.length:Nat):Int) < ((o.length+1:Nat):Int):=by omega
     have hge:(0:Int)<=((o.length:Nat):Int):=by omega
     have hw3:IntKind.i64.wrap (((o.length+1:Nat):Int) - 1)=((o.length:Nat):Int):=by rw[w64 (by omega) (by simp at h2;omega)];omega
     have hat0:(fl (o++[t]))[o.length*3]?=some (.int .i64 t.1):=fl_at o t 0;have hat1:(fl (o++[t]))[o.length*3+1]?=some (.str t.2.1):=fl_at o t 1;by_cases c3:t.1=1
     ·rw[pn_join c2 c3]
      have hc:t.2.1.length+s.length<=140737488355328:=by simp only[tot_app,tot_cons,tot_nil] at h3;omega
      have hb:=fl_blk (o++[t]);have hp:putL (o.length*3) [.int .i64 1,.str (t.2.1++s),.int .i64 0] (fl (o++[t]))=some (fl (o++[(1,t.2.1++s,0)])):=fl_put o t (1,t.2.1++s,0);obtain⟨v',sh',p1,p4⟩:=l57 f hf k (i+1) (o++[(1,t.2.1++s,0)]) (.ss D.length 0 (o.length+1) 3) (D++[fl (o++[(1,t.2.1++s,0)])]) (by omega) (by simp at h2 ⊢;omega) (by simp only[tot_app,tot_cons,tot_nil,length_append] at *;omega) (.inr ⟨D,o,_,rfl,rfl,rfl⟩);refine⟨v',sh',p1,?_⟩;rw[Y_loop (L:=L88_0) rfl];simp only[go_sem,h4,h0,hr,hw,hne,hpos,hlt,hge,hw3,gD,sD,hat0,hat1,c3,Nat.add_zero,hc,hb,hp];exact p4
     ·rw[pn_new c2 c3]
      have h6:(o.length+1)*3=(fl (o++[t])).length:=by rw[fl_len];simp
      have ha:appOK 32 (o.length+1+1)=true:=appOK_le (by decide) (by simp at h2;omega);have hb:=fl_blk (o++[t]);have hn:=fl_nown (o++[t]);have e6:fl (o++[t])++[[AV.int .i64 1,.str s,.int .i64 0]].flatten=fl (o++[t]++[(1,s,0)]):=by rw[fl_app (o++[t])];rfl
      have eL:(D++[fl (o++[t])]).length=(D++[dead]).length:=by simp
      obtain⟨v',sh',p1,p4⟩:=l57 f hf k (i+1) (o++[t]++[(1,s,0)]) (.ss (D++[dead]).length 0 (o.length+1+1) 3) ((D++[dead])++[fl (o++[t]++[(1,s,0)])]) (by omega) (by simp at h2 ⊢;omega) (by simp only[tot_app,tot_cons,tot_nil] at *;omega) (.inr ⟨D++[dead],o++[t],(1,s,0),rfl,by simp,rfl⟩);refine⟨v',sh',p1,?_⟩;rw[Y_loop (L:=L88_0) rfl];simp only[go_sem,h4,h0,hr,hw,hne,hpos,hlt,hge,hw3,gD,sD,hat0,hat1,c3,Nat.add_zero,ha,hb,hn,h6,eL];rw[e6];exact p4
  ·rw[pn_nt c1]
   rcases hst with ⟨rfl,rfl,rfl⟩ | ⟨D,o,t,rfl,rfl,rfl⟩
   ·rw[nil_append]
    obtain⟨v',sh',p1,p4⟩:=l57 f hf k (i+1) [(kk,s,id)] (.ss 0 0 1 3) [fl [(kk,s,id)]] (by omega) (by simp) (by simp only[tot_cons,tot_nil] at *;first | done | omega) (.inr ⟨[],[],(kk,s,id),rfl,rfl,rfl⟩);refine⟨v',sh',p1,?_⟩;have ha:appOK 32 1=true:=appOK_le (by decide) (by decide);rw[Y_loop (L:=L88_0) rfl];simp only[go_sem,h4,h0,hr,hw,c1,ha];exact p4
   ·have h6:(o.length+1)*3=(fl (o++[t])).length:=by rw[fl_len];simp
    have ha:appOK 32 (o.length+1+1)=true:=appOK_le (by decide) (by simp at h2;omega);have hb:=fl_blk (o++[t]);have hn:=fl_nown (o++[t]);have e6:fl (o++[t])++[[AV.int .i64 kk,.str s,.int .i64 id]].flatten=fl (o++[t]++[(kk,s,id)]):=by rw[fl_app (o++[t])];rfl
    have eL:(D++[fl (o++[t])]).length=(D++[dead]).length:=by simp
    obtain⟨v',sh',p1,p4⟩:=l57 f hf k (i+1) (o++[t]++[(kk,s,id)]) (.ss (D++[dead]).length 0 (o.length+1+1) 3) ((D++[dead])++[fl (o++[t]++[(kk,s,id)])]) (by omega) (by simp at h2 ⊢;omega) (by simp only[tot_app,tot_cons,tot_nil] at *;omega) (.inr ⟨D++[dead],o++[t],(kk,s,id),rfl,by simp,rfl⟩);refine⟨v',sh',p1,?_⟩;rw[Y_loop (L:=L88_0) rfl];simp only[go_sem,h4,h0,hr,hw,c1,gD,sD,ha,hb,hn,h6,eL];rw[e6];exact p4
theorem c57 (f:List Tk) (hf:f.length<=100000) (ht:tot f<=1000000):G0 88 [.sl .no 3 (tks f)] []=some (.sl .no 3 (tks (nrm f)),[]):=by
 obtain⟨v,sh,p1,p4⟩:=l57 f hf f.length 0 [] (.sl .full 3 []) [] (by omega) (by simp) (by rw[drop_zero,tot_nil];omega) (.inl ⟨rfl,rfl,rfl⟩);rw[drop_zero] at p1;have p1:Stt v sh (nrm f):=p1;generalize nrm f=g at p1 ⊢;refine contract F88 rfl rfl rfl ?_;simp only[go_sem] at p4;rcases p1 with ⟨rfl,rfl,rfl⟩ | ⟨D,o,t,rfl,rfl,rfl⟩
 ·simp only[F88,go_sem,tks_len,p4,tks_nil]
 ·have hr:=rowsC_fl (o++[t])
  simp only[length_append,length_cons,length_nil,Nat.zero_add] at hr;have hs:sameDead [] (D++[fl (o++[t])])=true:=rfl;have hk:refsOk false 0 (D++[fl (o++[t])])=true:=rfl;simp only[F88,go_sem,tks_len,p4,gD,hr,hs,hk,Nat.zero_le]
theorem c37 (f g:List Tk) (hf:f.length+g.length<=100000) (ht:tot f+tot g<=1000000):G0 57 [.sl .no 3 (tks f),.sl .no 3 (tks g)] []=some (.sl .no 3 (tks (nrm (f++g))),[]):=by
 have q3:=c57 (f++g) (by simpa using hf) (by rw[tot_app];exact ht);refine contract F57 rfl rfl rfl ?_;have ha:appOK 32 f.length=true:=appOK_le (by decide) (by omega);have ha2:appOK 32 (f.length+g.length)=true:=appOK_le (by decide) (by omega);simp only[F57,go_sem,appA_gen .full .no (by decide) 3 32 (by decide),appA_gen .own .no (by decide) 3 32 (by decide),tks_len,ha,ha2,tks_app,q3]
theorem c37x {f:List Tk} (hv:VL f) (x:Tk) (hf:f.length<=10000) (ht:tot f+x.2.1.length<=100000):G0 57 [.sl .no 3 (tks f),.sl .no 3 [[.int .i64 x.1,.str x.2.1,.int .i64 x.2.2]]] []=some (.sl .no 3 (tks (pn f x)),[]):=by
 have:=c37 f [x] (by simp only[length_cons,length_nil];omega) (by rw[tot_cons,tot_nil];omega)
 rw[nrm_snoc hv] at this;exact this
end Go.Av
namespace Go.Av
open Go.Nt
set_option maxHeartbeats 8000000
theorem split_at {l:List Tk} {j:Nat} {t:Tk} (h:l[j]?=some t):l=l.take j++t :: l.drop (j+1):=by
 have hj:j < l.length:=by
  by_cases q:j < l.length
  ·exact q
  ·rw[getElem?_eq_none (by omega)] at h;cases h
 rw[getElem?_eq_getElem hj] at h;simp only[Option.some.injEq] at h
 conv=>lhs;rw[<- take_append_drop j l,drop_eq_getElem_cons hj,h]
end Go.Av
namespace Go.Av
open Go.Nt
set_option maxHeartbeats 8000000
theorem len_cons (t:Tk) (f:List Tk):len (t :: f)=wid t+len f:=by simp [len]
theorem len_nil:len []=0:=rfl
abbrev cap47:Nat:=140737488355328
theorem l67 (f:List Tk) (hl:f.length<=10000) (hb:∀ t∈f,t.2.1.length<=cap47):∀ (k i n:Nat),i+k=f.length->n<=i*cap47 ->
  execX G0 L113_0 (ST [(3,.int .i64 n),(6,.sl .no 3 (tks f)),(7,.int .i64 f.length),(8,.int .i64 i)] [] [])=some (.ex 0,ST [(3,.int .i64 ((n+len (f.drop i):Nat):Int)),(6,.sl .no 3 (tks f)),(7,.int .i64 f.length),(8,.int .i64 f.length),(9,.bool false)] [] [])
 | 0,i,n,h,hn=>by
  have:i=f.length:=by omega
  subst this;rw[Y_loop (L:=L113_0) rfl];simp only[go_sem,Int.lt_irrefl,drop_length,len_nil,Nat.add_zero]
 | k+1,i,n,h,hn=>by
  have hi:i < f.length:=by omega
  have h4:(i:Int) < (f.length:Int):=by omega
  have h0:(0:Int)<=(i:Int):=by omega
  have hw:IntKind.i64.wrap ((i:Int)+1)=((i+1:Nat):Int):=by rw[w64 (by omega) (by omega)];rfl
  have hg:f[i]?=some f[i]:=getElem?_eq_getElem hi;have hd:f.drop i=f[i] :: f.drop (i+1):=drop_eq_getElem_cons hi;have hm:=hb _ (getElem_mem hi);generalize f[i]=T at hg hd hm;have hr:=tks_at hg;obtain⟨kk,s,id⟩:=T;simp only[] at hm hr;have c96:=c96 kk s id;have hwd:wid (kk,s,id)<=s.length+1:=by unfold wid;split<;>(first | omega | (simp only[];omega))
  have hwd2:wid (kk,s,id)<=cap47:=by unfold wid cap47;split<;>(first | omega | (simp only[];omega))
  rw[hd,len_cons];generalize wid (kk,s,id)=w at *;simp only[cap47] at *;have hw2:IntKind.i64.wrap ((n:Int)+(w:Int))=((n+w:Nat):Int):=by rw[w64 (by omega) (by omega)];rfl
  have ih:=l67 f hl hb k (i+1) (n+w) (by omega) (by simp only[cap47];omega);rw[Y_loop (L:=L113_0) rfl];simp only[go_sem,h4,h0,hr,hw,c96,hw2];rw[Nat.add_assoc] at ih;exact ih
theorem c67 (f:List Tk) (hl:f.length<=10000) (hb:∀ t∈f,t.2.1.length<=cap47):G0 113 [.sl .no 3 (tks f)] []=some (.int .i64 (len f:Nat),[]):=by
 refine contract F113 rfl rfl rfl ?_;have x:=l67 f hl hb f.length 0 0 (by omega) (by omega);have ec:((0:Nat):Int)=0:=rfl;rw[ec] at x;simp only[Nat.zero_add,drop_zero] at x;simp only[F113,go_sem,tks_len,x]
theorem l15 (f:List Tk) (hl:f.length<=10000) (hb:∀ t∈f,t.2.1.length<=cap47):∀ (k i n:Nat),i+k=f.length->n<=i*cap47 ->
  execX G0 L109_0 (ST [(0,.sl .no 3 (tks f)),(3,.int .i64 n),(6,.int .i64 f.length),(7,.int .i64 i)] [] [])=some (.ex 0,ST [(0,.sl .no 3 (tks f)),(3,.int .i64 ((n+len (f.drop i):Nat):Int)),(6,.int .i64 f.length),(7,.int .i64 f.length),(8,.bool false)] [] [])
 | 0,i,n,h,hn=>by
  have:i=f.length:=by omega
  subst this;rw[Y_loop (L:=L109_0) rfl];simp only[go_sem,Int.lt_irrefl,drop_length,len_nil,Nat.add_zero]
 | k+1,i,n,h,hn=>by
  have hi:i < f.length:=by omega
  have h4:(i:Int) < (f.length:Int):=by omega
  have h0:(0:Int)<=(i:Int):=by omega
  have hw:IntKind.i64.wrap ((i:Int)+1)=((i+1:Nat):Int):=by rw[w64 (by omega) (by omega)];rfl
  have hg:f[i]?=some f[i]:=getElem?_eq_getElem hi;have hd:f.drop i=f[i] :: f.drop (i+1):=drop_eq_getElem_cons hi;have hm:=hb _ (getElem_mem hi);generalize f[i]=T at hg hd hm;have hr:=tks_at hg;obtain⟨kk,s,id⟩:=T;simp only[] at hm hr;rw[hd,len_cons];simp only[cap47] at *;by_cases hk:kk=1
  ·subst hk
   have e:wid (1,s,id)=s.length:=rfl;have hw2:IntKind.i64.wrap ((n:Int)+(s.length:Int))=((n+s.length:Nat):Int):=by rw[w64 (by omega) (by omega)];rfl
   have ih:=l15 f hl hb k (i+1) (n+s.length) (by omega) (by simp only[cap47];omega);rw[Y_loop (L:=L109_0) rfl,e];simp only[go_sem,h4,h0,hr,hw,hw2];rw[Nat.add_assoc] at ih;exact ih
  ·have e:wid (kk,s,id)=1:=by unfold wid;rw[if_neg hk]
   have hw2:IntKind.i64.wrap ((n:Int)+1)=((n+1:Nat):Int):=by rw[w64 (by omega) (by omega)];rfl
   have ih:=l15 f hl hb k (i+1) (n+1) (by omega) (by simp only[cap47];omega);rw[Y_loop (L:=L109_0) rfl,e];simp only[go_sem,h4,h0,hr,hw,hk,hw2];rw[Nat.add_assoc] at ih;exact ih
theorem c15 (f:List Tk) (hl:f.length<=10000) (hb:∀ t∈f,t.2.1.length<=cap47):G0 109 [.sl .no 3 (tks f)] []=some (.int .i64 (len f:Nat),[]):=by
 refine contract F109 rfl rfl rfl ?_;have x:=l15 f hl hb f.length 0 0 (by omega) (by omega);have ec:((0:Nat):Int)=0:=rfl;rw[ec] at x;simp only[Nat.zero_add,drop_zero] at x;simp only[F109,go_sem,tks_len,x]
theorem l70 (B:List Tk) (hl:B.length<=1000000) (hb:∀ t∈B,t.1=2->t.2.1.length<=1000000) (k0:Int) (s0:Bs) (i0:Int):∀ (k i:Nat),i+k=B.length ->
  ((B.drop i).any (clash (k0,s0,i0))=false->execX G0 L116_0 (ST [(3,.loc 3 0),(7,.sl .no 3 (tks B)),(8,.int .i64 B.length),(9,.int .i64 i)] [(3,some [.int .i64 k0,.str s0,.int .i64 i0])] [])=some (.ex 0,ST [(3,.loc 3 0),(7,.sl .no 3 (tks B)),(8,.int .i64 B.length),(9,.int .i64 B.length),(10,.bool false)] [(3,some [.int .i64 k0,.str s0,.int .i64 i0])] [])) /\
  ((B.drop i).any (clash (k0,s0,i0))=true->∃ l' m',execX G0 L116_0 (ST [(3,.loc 3 0),(7,.sl .no 3 (tks B)),(8,.int .i64 B.length),(9,.int .i64 i)] [(3,some [.int .i64 k0,.str s0,.int .i64 i0])] [])=some (.ret,ST l' m' [])/\look .any l' 4=.bool false)
 | 0,i,h=>by
  have:i=B.length:=by omega
  subst this;refine⟨fun _=>?_,fun h=>(by simp at h)⟩;rw[Y_loop (L:=L116_0) rfl];simp only[go_sem,Int.lt_irrefl]
 | k+1,i,h=>by
  have hi:i < B.length:=by omega
  have h4:(i:Int) < (B.length:Int):=by omega
  have h0:(0:Int)<=(i:Int):=by omega
  have hw:IntKind.i64.wrap ((i:Int)+1)=((i+1:Nat):Int):=by rw[w64 (by omega) (by omega)];rfl
  have hg:B[i]?=some B[i]:=getElem?_eq_getElem hi;have hd:B.drop i=B[i] :: B.drop (i+1):=drop_eq_getElem_cons hi;have hm:=hb _ (getElem_mem hi);generalize B[i]=T at hg hd hm;have hr:=tks_at hg;obtain⟨kk,s,id⟩:=T;simp only[] at hm hr;have c69:=c69 kk s id;have ih:=l70 B hl hb k0 s0 i0 k (i+1) (by omega);rw[hd,any_cons];have ec:clash (k0,s0,i0) (kk,s,id)=(isTag (kk,s,id) && decide (id=i0) && !(decide (k0=3) && decide (kk=2) && (nameOf s == s0))):=rfl;have step:clash (k0,s0,i0) (kk,s,id)=false->execX G0 L116_0 (ST [(3,.loc 3 0),(7,.sl .no 3 (tks B)),(8,.int .i64 B.length),(9,.int .i64 i)] [(3,some [.int .i64 k0,.str s0,.int .i64 i0])] [])=execX G0 L116_0 (ST [(3,.loc 3 0),(7,.sl .no 3 (tks B)),(8,.int .i64 B.length),(9,.int .i64 ((i+1:Nat):Int))] [(3,some [.int .i64 k0,.str s0,.int .i64 i0])] []):=by
   intro hc;rw[ec] at hc
   conv=>lhs;rw[Y_loop (L:=L116_0) rfl]
   cases ht:isTag (kk,s,id) with
   | false =>
    rw[ht] at c69;simp only[go_sem,h4,h0,hr,hw,c69]
   | true =>
    rw[ht] at c69 hc;by_cases h1:id=i0
    ·subst h1
     simp only[decide_true,Bool.true_and,Bool.not_eq_false',Bool.and_eq_true,decide_eq_true_eq,beq_iff_eq] at hc;obtain⟨⟨rfl,rfl⟩,h3⟩:=hc;have c98:=c98 s (hm rfl);rw[h3] at c98;have e:(s0 != s0)=false:=by simp
     simp only[go_sem,h4,h0,hr,hw,c69,c98,e]
    ·simp only[go_sem,h4,h0,hr,hw,c69,h1]
  cases hc:clash (k0,s0,i0) (kk,s,id) with
  | false =>
   rw[step hc,Bool.false_or];exact ih
  | true =>
   rw[Bool.true_or];refine⟨fun q=>(by cases q),fun _=>?_⟩;rw[ec] at hc;simp only[Bool.and_eq_true,decide_eq_true_eq,Bool.not_eq_true'] at hc;obtain⟨⟨ht,rfl⟩,hx⟩:=hc;rw[ht] at c69;by_cases h1:k0=3
   ·subst h1
    by_cases h2:kk=2
    ·subst h2
     have c98:=c98 s (hm rfl);simp only[decide_true,Bool.true_and,beq_eq_false_iff_ne] at hx;have e:(nameOf s != s0)=true:=by simp [hx]
     refine Exists.intro ?_ (Exists.intro ?_ (And.intro ?_ ?_))
     rotate_left 2
     ·rw[Y_loop (L:=L116_0) rfl]
      simp only[go_sem,h4,h0,hr,hw,c69,c98,e];rfl
     ·rfl
    ·refine Exists.intro ?_ (Exists.intro ?_ (And.intro ?_ ?_))
     rotate_left 2
     ·rw[Y_loop (L:=L116_0) rfl]
      simp only[go_sem,h4,h0,hr,hw,c69,h2];rfl
     ·rfl
   ·refine Exists.intro ?_ (Exists.intro ?_ (And.intro ?_ ?_))
    rotate_left 2
    ·rw[Y_loop (L:=L116_0) rfl]
     simp only[go_sem,h4,h0,hr,hw,c69,h1];rfl
    ·rfl
theorem c70 (B:List Tk) (hl:B.length<=1000000) (hb:∀ t∈B,t.1=2->t.2.1.length<=1000000) (k0:Int) (s0:Bs) (i0:Int):G0 116 [.sl .no 3 (tks B),.agg [.int .i64 k0,.str s0,.int .i64 i0]] []=some (.bool (fitsB B (k0,s0,i0)),[]):=by
 refine contract F116 rfl rfl rfl ?_;obtain⟨x1,x2⟩:=l70 B hl hb k0 s0 i0 B.length 0 (by omega);have ec:((0:Nat):Int)=0:=rfl;rw[drop_zero,ec] at x1 x2;unfold fitsB;cases h:B.any (clash (k0,s0,i0)) with
 | false=>simp only[F116,go_sem,tks_len,x1 h]
 | true =>
  obtain⟨l',m',y1,y2⟩:=x2 h;simp only[F116,go_sem,tks_len,y1,y2]
end Go.Av
namespace Go.Av
open Go.Nt
set_option maxHeartbeats 8000000
theorem lastK_take {f:List Tk} {i:Nat} {y:Tk} (h:f[i]?=some y):lastK (f.take (i+1))=y.1:=by
 have hi:i < f.length:=by
  by_cases q:i < f.length
  ·exact q
  ·rw[getElem?_eq_none (by omega)] at h;cases h
 rw[getElem?_eq_getElem hi] at h;simp only[Option.some.injEq] at h;rw[take_succ_eq_append_getElem hi,h,lastK_snoc]
theorem ne_nil_t {s:Bs} (h:s≠[]):(s != ([]:Bs))=true:=by simp [h]
theorem eq_nil_f {s:Bs} (h:s≠[]):(s == ([]:Bs))=false:=by simp [h]
theorem c68 (f:List Tk) (hl:f.length<=1000000) (i:Nat) (k:Int) (s:Bs) (id:Int) (hi:f[i]?=some (k,s,id)):G0 114 [.sl .no 3 (tks f),.int .i64 i] []=some (.bool (wfB (f.take i) (k,s,id)),[]):=by
 refine contract F114 rfl rfl rfl ?_;have h0:(0:Int)<=(i:Int):=by omega
 have hlt:i < f.length:=by
  by_cases q:i < f.length
  ·exact q
  ·rw[getElem?_eq_none (by omega)] at hi;cases hi
 have hr:=tks_at hi;simp only[] at hr;have z0:((([]:Bs) != ([]:Bs))=false):=rfl;by_cases k1:k=1
 ·subst k1
  by_cases h1:s=[]
  ·subst h1
   have e:wfB (f.take i) (1,[],id)=false:=rfl;rw[e];simp only[F114,go_sem,h0,hr,z0]
  by_cases h2:id=0
  ·subst h2
   cases i with
   | zero =>
    have e:wfB (f.take 0) (1,s,0)=true:=by simp [wfB,h1,lastK]
    rw[e];have hz:((0:Nat):Int)=0:=rfl;rw[hz] at *;have hr:(tks f)[0]?=some [.int .i64 1,.str s,.int .i64 0]:=hr;simp only[F114,go_sem,h0,hr,ne_nil_t h1]
   | succ j =>
    have hg:f[j]?=some f[j]:=getElem?_eq_getElem (by omega);generalize f[j]=Y at hg;have hr2:=tks_at hg;have hK:=lastK_take hg;have n0:¬ ((j+1:Nat):Int)=0:=by omega
    have w1:IntKind.i64.wrap (((j+1:Nat):Int) - 1)=(j:Int):=by rw[w64 (by omega) (by omega)];omega
    have j0:(0:Int)<=(j:Int):=by omega
    by_cases h3:Y.1=1
    ·have e:wfB (f.take (j+1)) (1,s,0)=false:=by simp [wfB,hK,h3]
     rw[e];simp only[F114,go_sem,h0,hr,ne_nil_t h1,n0,w1,j0,hr2,h3]
    ·have e:wfB (f.take (j+1)) (1,s,0)=true:=by simp [wfB,hK,h3,h1]
     rw[e];simp only[F114,go_sem,h0,hr,ne_nil_t h1,n0,w1,j0,hr2,h3]
  ·have e:wfB (f.take i) (1,s,id)=false:=by simp [wfB,h2]
   rw[e];simp only[F114,go_sem,h0,hr,ne_nil_t h1,h2]
 by_cases k5:k=5
 ·subst k5
  have e:wfB (f.take i) (5,s,id)=(isNm s && decide (id=0)):=rfl;rw[e];have h83:=c83 s;cases hn:isNm s with
  | false =>
   rw[hn] at h83;simp only[F114,go_sem,h0,hr,h83,Bool.false_and]
  | true =>
   rw[hn] at h83;by_cases h2:id=0
   ·simp only[F114,go_sem,h0,hr,h83,h2,Bool.true_and,decide_true]
   ·simp only[F114,go_sem,h0,hr,h83,h2,Bool.true_and,decide_false]
 by_cases k2:k=2\/k=4
 ·have e:wfB (f.take i) (k,s,id)=(isC s && (decide (1<=id) && decide (id<=999))):=by rcases k2 with rfl | rfl<;>rfl
  rw[e];have h97:=c97 s;rcases k2 with rfl | rfl
  all_goals
   cases hn:isC s with
   | false =>
    rw[hn] at h97;simp only[F114,go_sem,h0,hr,h97,Bool.false_and]
   | true =>
    rw[hn] at h97;by_cases h2:1<=id
    ·by_cases h3:id<=999
     ·simp only[F114,go_sem,h0,hr,h97,h2,h3,Bool.true_and,decide_true]
     ·simp only[F114,go_sem,h0,hr,h97,h2,h3,Bool.true_and,decide_true,decide_false]
    ·simp only[F114,go_sem,h0,hr,h97,h2,Bool.true_and,decide_false,Bool.false_and]
 have k2':¬ k=2:=fun q=>k2 (.inl q)
 have k4':¬ k=4:=fun q=>k2 (.inr q)
 by_cases k3:k=3
 ·subst k3
  have e:wfB (f.take i) (3,s,id)=(isNm s && (decide (1<=id) && decide (id<=999))):=rfl;rw[e];have h83:=c83 s;cases hn:isNm s with
  | false =>
   rw[hn] at h83;simp only[F114,go_sem,h0,hr,h83,Bool.false_and]
  | true =>
   rw[hn] at h83;by_cases h2:1<=id
   ·by_cases h3:id<=999
    ·simp only[F114,go_sem,h0,hr,h83,h2,h3,Bool.true_and,decide_true]
    ·simp only[F114,go_sem,h0,hr,h83,h2,h3,Bool.true_and,decide_true,decide_false]
   ·simp only[F114,go_sem,h0,hr,h83,h2,Bool.true_and,decide_false,Bool.false_and]
 ·have e:wfB (f.take i) (k,s,id)=false:=by simp [wfB,k1,k5,k2',k4',k3]
  rw[e];simp only[F114,go_sem,h0,hr,k1,k5,k2',k4',k3]
theorem l48a (B:List Tk) (hl:B.length<=1000000) (hb:∀ t∈B,t.1=2->t.2.1.length<=1000000) (k0:Int) (s0:Bs) (i0:Int):∀ (k i:Nat),i+k=B.length ->
  ((B.drop i).any (clash (k0,s0,i0))=false->execX G0 L110_0 (ST [(0,.sl .no 3 (tks B)),(3,.loc 3 0),(8,.int .i64 k0),(9,.bool false),(34,.bool false),(45,.bool true),(61,.bool false),(79,.int .i64 B.length),(80,.int .i64 i)] [(3,some [.int .i64 k0,.str s0,.int .i64 i0])] [])=some (.ex 1,ST [(0,.sl .no 3 (tks B)),(3,.loc 3 0),(8,.int .i64 k0),(9,.bool false),(34,.bool false),(45,.bool true),(61,.bool false),(79,.int .i64 B.length),(80,.int .i64 B.length),(81,.bool false)] [(3,some [.int .i64 k0,.str s0,.int .i64 i0])] [])) /\
  ((B.drop i).any (clash (k0,s0,i0))=true->∃ l' m',execX G0 L110_0 (ST [(0,.sl .no 3 (tks B)),(3,.loc 3 0),(8,.int .i64 k0),(9,.bool false),(34,.bool false),(45,.bool true),(61,.bool false),(79,.int .i64 B.length),(80,.int .i64 i)] [(3,some [.int .i64 k0,.str s0,.int .i64 i0])] [])=some (.ret,ST l' m' [])/\look .any l' 4=.int .i64 7)
 | 0,i,h=>by
  have:i=B.length:=by omega
  subst this;refine⟨fun _=>?_,fun h=>(by simp at h)⟩;rw[Y_loop (L:=L110_0) rfl];simp only[go_sem,Int.lt_irrefl]
 | k+1,i,h=>by
  have hi:i < B.length:=by omega
  have h4:(i:Int) < (B.length:Int):=by omega
  have h0:(0:Int)<=(i:Int):=by omega
  have hw:IntKind.i64.wrap ((i:Int)+1)=((i+1:Nat):Int):=by rw[w64 (by omega) (by omega)];rfl
  have hg:B[i]?=some B[i]:=getElem?_eq_getElem hi;have hd:B.drop i=B[i] :: B.drop (i+1):=drop_eq_getElem_cons hi;have hm:=hb _ (getElem_mem hi);generalize B[i]=T at hg hd hm;have hr:=tks_at hg;obtain⟨kk,s,id⟩:=T;simp only[] at hm hr;have c65:=c65 kk s id;have ih:=l48a B hl hb k0 s0 i0 k (i+1) (by omega);rw[hd,any_cons];have ec:clash (k0,s0,i0) (kk,s,id)=(isTag (kk,s,id) && decide (id=i0) && !(decide (k0=3) && decide (kk=2) && (nameOf s == s0))):=rfl;have step:clash (k0,s0,i0) (kk,s,id)=false->execX G0 L110_0 (ST [(0,.sl .no 3 (tks B)),(3,.loc 3 0),(8,.int .i64 k0),(9,.bool false),(34,.bool false),(45,.bool true),(61,.bool false),(79,.int .i64 B.length),(80,.int .i64 i)] [(3,some [.int .i64 k0,.str s0,.int .i64 i0])] [])=execX G0 L110_0 (ST [(0,.sl .no 3 (tks B)),(3,.loc 3 0),(8,.int .i64 k0),(9,.bool false),(34,.bool false),(45,.bool true),(61,.bool false),(79,.int .i64 B.length),(80,.int .i64 ((i+1:Nat):Int))] [(3,some [.int .i64 k0,.str s0,.int .i64 i0])] []):=by
   intro hc;rw[ec] at hc
   conv=>lhs;rw[Y_loop (L:=L110_0) rfl]
   cases ht:isTag (kk,s,id) with
   | false =>
    rw[ht] at c65;simp only[go_sem,h4,h0,hr,hw,c65]
   | true =>
    rw[ht] at c65 hc;by_cases h1:id=i0
    ·subst h1
     simp only[decide_true,Bool.true_and,Bool.not_eq_false',Bool.and_eq_true,decide_eq_true_eq,beq_iff_eq] at hc;obtain⟨⟨rfl,rfl⟩,h3⟩:=hc;have c64:=c64 s (hm rfl);rw[h3] at c64;have e:(s0 != s0)=false:=by simp
     simp only[go_sem,h4,h0,hr,hw,c65,c64,e]
    ·simp only[go_sem,h4,h0,hr,hw,c65,h1]
  cases hc:clash (k0,s0,i0) (kk,s,id) with
  | false =>
   rw[step hc,Bool.false_or];exact ih
  | true =>
   rw[Bool.true_or];refine⟨fun q=>(by cases q),fun _=>?_⟩;rw[ec] at hc;simp only[Bool.and_eq_true,decide_eq_true_eq,Bool.not_eq_true'] at hc;obtain⟨⟨ht,rfl⟩,hx⟩:=hc;rw[ht] at c65;by_cases h1:k0=3
   ·subst h1
    by_cases h2:kk=2
    ·subst h2
     have c64:=c64 s (hm rfl);simp only[decide_true,Bool.true_and,beq_eq_false_iff_ne] at hx;have e:(nameOf s != s0)=true:=by simp [hx]
     refine Exists.intro ?_ (Exists.intro ?_ (And.intro ?_ ?_))
     rotate_left 2
     ·rw[Y_loop (L:=L110_0) rfl]
      simp only[go_sem,h4,h0,hr,hw,c65,c64,e];rfl
     ·rfl
    ·refine Exists.intro ?_ (Exists.intro ?_ (And.intro ?_ ?_))
     rotate_left 2
     ·rw[Y_loop (L:=L110_0) rfl]
      simp only[go_sem,h4,h0,hr,hw,c65,h2];rfl
     ·rfl
   ·refine Exists.intro ?_ (Exists.intro ?_ (And.intro ?_ ?_))
    rotate_left 2
    ·rw[Y_loop (L:=L110_0) rfl]
     simp only[go_sem,h4,h0,hr,hw,c65,h1];rfl
    ·rfl
theorem l48b (B:List Tk) (hl:B.length<=1000000) (hb:∀ t∈B,t.1=2->t.2.1.length<=1000000) (k0:Int) (s0:Bs) (i0:Int):∀ (k i:Nat),i+k=B.length ->
  ((B.drop i).any (clash (k0,s0,i0))=false->execX G0 L110_0 (ST [(0,.sl .no 3 (tks B)),(3,.loc 3 0),(9,.bool false),(34,.bool false),(45,.bool false),(62,.bool true),(77,.bool false),(79,.int .i64 B.length),(80,.int .i64 i)] [(3,some [.int .i64 k0,.str s0,.int .i64 i0])] [])=some (.ex 1,ST [(0,.sl .no 3 (tks B)),(3,.loc 3 0),(9,.bool false),(34,.bool false),(45,.bool false),(62,.bool true),(77,.bool false),(79,.int .i64 B.length),(80,.int .i64 B.length),(81,.bool false)] [(3,some [.int .i64 k0,.str s0,.int .i64 i0])] [])) /\
  ((B.drop i).any (clash (k0,s0,i0))=true->∃ l' m',execX G0 L110_0 (ST [(0,.sl .no 3 (tks B)),(3,.loc 3 0),(9,.bool false),(34,.bool false),(45,.bool false),(62,.bool true),(77,.bool false),(79,.int .i64 B.length),(80,.int .i64 i)] [(3,some [.int .i64 k0,.str s0,.int .i64 i0])] [])=some (.ret,ST l' m' [])/\look .any l' 4=.int .i64 7)
 | 0,i,h=>by
  have:i=B.length:=by omega
  subst this;refine⟨fun _=>?_,fun h=>(by simp at h)⟩;rw[Y_loop (L:=L110_0) rfl];simp only[go_sem,Int.lt_irrefl]
 | k+1,i,h=>by
  have hi:i < B.length:=by omega
  have h4:(i:Int) < (B.length:Int):=by omega
  have h0:(0:Int)<=(i:Int):=by omega
  have hw:IntKind.i64.wrap ((i:Int)+1)=((i+1:Nat):Int):=by rw[w64 (by omega) (by omega)];rfl
  have hg:B[i]?=some B[i]:=getElem?_eq_getElem hi;have hd:B.drop i=B[i] :: B.drop (i+1):=drop_eq_getElem_cons hi;have hm:=hb _ (getElem_mem hi);generalize B[i]=T at hg hd hm;have hr:=tks_at hg;obtain⟨kk,s,id⟩:=T;simp only[] at hm hr;have c65:=c65 kk s id;have ih:=l48b B hl hb k0 s0 i0 k (i+1) (by omega);rw[hd,any_cons];have ec:clash (k0,s0,i0) (kk,s,id)=(isTag (kk,s,id) && decide (id=i0) && !(decide (k0=3) && decide (kk=2) && (nameOf s == s0))):=rfl;have step:clash (k0,s0,i0) (kk,s,id)=false->execX G0 L110_0 (ST [(0,.sl .no 3 (tks B)),(3,.loc 3 0),(9,.bool false),(34,.bool false),(45,.bool false),(62,.bool true),(77,.bool false),(79,.int .i64 B.length),(80,.int .i64 i)] [(3,some [.int .i64 k0,.str s0,.int .i64 i0])] [])=execX G0 L110_0 (ST [(0,.sl .no 3 (tks B)),(3,.loc 3 0),(9,.bool false),(34,.bool false),(45,.bool false),(62,.bool true),(77,.bool false),(79,.int .i64 B.length),(80,.int .i64 ((i+1:Nat):Int))] [(3,some [.int .i64 k0,.str s0,.int .i64 i0])] []):=by
   intro hc;rw[ec] at hc
   conv=>lhs;rw[Y_loop (L:=L110_0) rfl]
   cases ht:isTag (kk,s,id) with
   | false =>
    rw[ht] at c65;simp only[go_sem,h4,h0,hr,hw,c65]
   | true =>
    rw[ht] at c65 hc;by_cases h1:id=i0
    ·subst h1
     simp only[decide_true,Bool.true_and,Bool.not_eq_false',Bool.and_eq_true,decide_eq_true_eq,beq_iff_eq] at hc;obtain⟨⟨rfl,rfl⟩,h3⟩:=hc;have c64:=c64 s (hm rfl);rw[h3] at c64;have e:(s0 != s0)=false:=by simp
     simp only[go_sem,h4,h0,hr,hw,c65,c64,e]
    ·simp only[go_sem,h4,h0,hr,hw,c65,h1]
  cases hc:clash (k0,s0,i0) (kk,s,id) with
  | false =>
   rw[step hc,Bool.false_or];exact ih
  | true =>
   rw[Bool.true_or];refine⟨fun q=>(by cases q),fun _=>?_⟩;rw[ec] at hc;simp only[Bool.and_eq_true,decide_eq_true_eq,Bool.not_eq_true'] at hc;obtain⟨⟨ht,rfl⟩,hx⟩:=hc;rw[ht] at c65;by_cases h1:k0=3
   ·subst h1
    by_cases h2:kk=2
    ·subst h2
     have c64:=c64 s (hm rfl);simp only[decide_true,Bool.true_and,beq_eq_false_iff_ne] at hx;have e:(nameOf s != s0)=true:=by simp [hx]
     refine Exists.intro ?_ (Exists.intro ?_ (And.intro ?_ ?_))
     rotate_left 2
     ·rw[Y_loop (L:=L110_0) rfl]
      simp only[go_sem,h4,h0,hr,hw,c65,c64,e];rfl
     ·rfl
    ·refine Exists.intro ?_ (Exists.intro ?_ (And.intro ?_ ?_))
     rotate_left 2
     ·rw[Y_loop (L:=L110_0) rfl]
      simp only[go_sem,h4,h0,hr,hw,c65,h2];rfl
     ·rfl
   ·refine Exists.intro ?_ (Exists.intro ?_ (And.intro ?_ ?_))
    rotate_left 2
    ·rw[Y_loop (L:=L110_0) rfl]
     simp only[go_sem,h4,h0,hr,hw,c65,h1];rfl
    ·rfl
theorem c48 (B:List Tk) (hl:B.length<=1000000) (hb:∀ t∈B,t.1=2->t.2.1.length<=1000000) (k:Int) (s:Bs) (id:Int):G0 110 [.sl .no 3 (tks B),.agg [.int .i64 k,.str s,.int .i64 id]] []=some (.int .i64 (chk B (k,s,id)),[]):=by
 refine contract F110 rfl rfl rfl ?_;have z0:((([]:Bs) == ([]:Bs))=true):=rfl;have ec:((0:Nat):Int)=0:=rfl;by_cases k1:k=1
 ·subst k1
  by_cases h1:s=[]
  ·subst h1
   have e:chk B (1,[],id)=1:=by simp [chk]
   rw[e];simp only[F110,go_sem,z0]
  by_cases h2:id=0
  ·subst h2
   rcases snoc_cases B with rfl | ⟨A,Y,rfl⟩
   ·have e:chk [] (1,s,0)=0:=by simp [chk,h1,lastK]
    rw[e];simp only[F110,go_sem,eq_nil_f h1,tks_nil,Int.lt_irrefl]
   ·have hll:((tks (A++[Y])).length:Int)=((A.length+1:Nat):Int):=by rw[tks_len];simp
    have p0:(0:Int) < ((A.length+1:Nat):Int):=by omega
    have hl2:A.length<=1000000:=by simp at hl;omega
    have w1:IntKind.i64.wrap (((A.length+1:Nat):Int) - 1)=(A.length:Int):=by rw[w64 (by omega) (by omega)];omega
    have hg:(A++[Y])[A.length]?=some Y:=by simp
    have hr:=tks_at hg;have hK:=lastK_snoc A Y;have j0:(0:Int)<=(A.length:Int):=by omega
    by_cases h3:Y.1=1
    ·have e:chk (A++[Y]) (1,s,0)=1:=by simp [chk,hK,h3]
     rw[e];simp only[F110,go_sem,eq_nil_f h1,hll,p0,w1,j0,hr,h3]
    ·have e:chk (A++[Y]) (1,s,0)=0:=by simp [chk,hK,h3,h1]
     rw[e];simp only[F110,go_sem,eq_nil_f h1,hll,p0,w1,j0,hr,h3]
  ·have e:chk B (1,s,id)=1:=by simp [chk,h2]
   rw[e];simp only[F110,go_sem,eq_nil_f h1,h2]
 by_cases k5:k=5
 ·subst k5
  have h74:=c74 s;cases hn:isNm s with
  | false =>
   rw[hn] at h74;have e:chk B (5,s,id)=1:=by simp [chk,hn]
   rw[e];simp only[F110,go_sem,h74]
  | true =>
   rw[hn] at h74;by_cases h2:id=0
   ·have e:chk B (5,s,id)=0:=by simp [chk,hn,h2]
    rw[e];simp only[F110,go_sem,h74,h2]
   ·have e:chk B (5,s,id)=1:=by simp [chk,hn,h2]
    rw[e];simp only[F110,go_sem,h74,h2]
 by_cases k2:k=2\/k=4
 ·have h75:=c75 s
  obtain⟨x1,x2⟩:=l48a B hl hb k s id B.length 0 (by omega);rw[drop_zero,ec] at x1 x2;cases hn:isC s with
  | false =>
   rw[hn] at h75;have e:chk B (k,s,id)=1:=by rcases k2 with rfl | rfl<;>simp [chk,hn]
   rw[e];rcases k2 with rfl | rfl
   ·simp only[F110,go_sem,h75]
   ·simp only[F110,go_sem,h75]
  | true =>
   rw[hn] at h75;by_cases h2:id < 1
   ·have e:chk B (k,s,id)=1:=by rcases k2 with rfl | rfl<;>(simp [chk,hn];omega)
    rw[e];rcases k2 with rfl | rfl
    ·simp only[F110,go_sem,h75,h2]
    ·simp only[F110,go_sem,h75,h2]
   ·by_cases h3:999 < id
    ·have e:chk B (k,s,id)=1:=by rcases k2 with rfl | rfl<;>(simp [chk,hn];omega)
     rw[e];rcases k2 with rfl | rfl
     ·simp only[F110,go_sem,h75,h2,h3]
     ·simp only[F110,go_sem,h75,h2,h3]
    ·have q1:1<=id:=by omega
     have q2:id<=999:=by omega
     have e:chk B (k,s,id)=tagE B (k,s,id):=by rcases k2 with rfl | rfl<;>simp [chk,hn,q1,q2]
     rw[e];unfold tagE;cases ha:B.any (clash (k,s,id)) with
     | false =>
      have y:=x1 ha;rcases k2 with rfl | rfl
      ·simp only[F110,go_sem,h75,h2,h3,tks_len,y]
      ·simp only[F110,go_sem,h75,h2,h3,tks_len,y]
     | true =>
      obtain⟨l',m',y1,y2⟩:=x2 ha;rcases k2 with rfl | rfl
      ·simp only[F110,go_sem,h75,h2,h3,tks_len,y1,y2]
      ·simp only[F110,go_sem,h75,h2,h3,tks_len,y1,y2]
 have k2':¬ k=2:=fun q=>k2 (.inl q)
 have k4':¬ k=4:=fun q=>k2 (.inr q)
 by_cases k3:k=3
 ·subst k3
  have h74:=c74 s;obtain⟨x1,x2⟩:=l48b B hl hb 3 s id B.length 0 (by omega);rw[drop_zero,ec] at x1 x2;cases hn:isNm s with
  | false =>
   rw[hn] at h74;have e:chk B (3,s,id)=1:=by simp [chk,hn]
   rw[e];simp only[F110,go_sem,h74]
  | true =>
   rw[hn] at h74;by_cases h2:id < 1
   ·have e:chk B (3,s,id)=1:=by simp [chk,hn];omega
    rw[e];simp only[F110,go_sem,h74,h2]
   ·by_cases h3:999 < id
    ·have e:chk B (3,s,id)=1:=by simp [chk,hn];omega
     rw[e];simp only[F110,go_sem,h74,h2,h3]
    ·have q1:1<=id:=by omega
     have q2:id<=999:=by omega
     have e:chk B (3,s,id)=tagE B (3,s,id):=by simp [chk,hn,q1,q2]
     rw[e];unfold tagE;cases ha:B.any (clash (3,s,id)) with
     | false =>
      have y:=x1 ha;simp only[F110,go_sem,h74,h2,h3,tks_len,y]
     | true =>
      obtain⟨l',m',y1,y2⟩:=x2 ha;simp only[F110,go_sem,h74,h2,h3,tks_len,y1,y2]
 ·have e:chk B (k,s,id)=1:=by simp [chk,k1,k5,k2',k4',k3]
  rw[e];simp only[F110,go_sem,k1,k5,k2',k4',k3]
theorem chk_len {f:List Tk} {x:Tk} (h:chk f x=0) (hx:x.1=2):x.2.1.length<=1000000:=by
 obtain⟨k,s,i⟩:=x;simp only[] at hx;subst hx;have hc:isC s=true:=by
  cases q:isC s with
  | true=>rfl
  | false=>simp [chk,q] at h
 unfold isC at hc;simp only[Bool.and_eq_true,decide_eq_true_eq] at hc
 have:=hc.1.1.1.1
 simp only[];omega
theorem VL_len {f:List Tk} (h:VL f):∀ t∈f,t.1=2->t.2.1.length<=1000000:=by
 suffices ∀ (n:Nat) (f:List Tk),f.length=n->VL f->∀ t∈f,t.1=2->t.2.1.length<=1000000 from this _ f rfl h
 intro n
 induction n with
 | zero=>intro f hf _ t ht;rw[eq_nil_of_length_eq_zero hf] at ht;cases ht
 | succ n ih =>
  intro f hf hv t ht h2;rcases snoc_cases f with rfl | ⟨g,y,rfl⟩
  ·cases ht
  ·obtain⟨a,b⟩:=(chks_snoc g y).1 hv
   rcases mem_append.1 ht with q | q
   ·exact ih g (by simp at hf;exact hf) a t q h2
   ·simp only[mem_singleton] at q;subst q;exact chk_len b h2
theorem take_step {f:List Tk} {i:Nat} {t:Tk} (h:f[i]?=some t):f.take (i+1)=f.take i++[t]:=by
 have hi:i < f.length:=by
  by_cases q:i < f.length
  ·exact q
  ·rw[getElem?_eq_none (by omega)] at h;cases h
 rw[getElem?_eq_getElem hi] at h;simp only[Option.some.injEq] at h;rw[take_succ_eq_append_getElem hi,h]
theorem chks_step {f:List Tk} {i:Nat} {t:Tk} (h:f[i]?=some t):chks (f.take i) (f.drop i)=if chk (f.take i) t≠0 then chk (f.take i) t else chks (f.take (i+1)) (f.drop (i+1)):=by
 have hi:i < f.length:=by
  by_cases q:i < f.length
  ·exact q
  ·rw[getElem?_eq_none (by omega)] at h;cases h
 have hd:f.drop i=f[i] :: f.drop (i+1):=drop_eq_getElem_cons hi;rw[take_step h];rw[getElem?_eq_getElem hi] at h;simp only[Option.some.injEq] at h;rw[hd,h];rfl
theorem VL_step {f:List Tk} {i:Nat} {t:Tk} (h:f[i]?=some t) (hv:VL (f.take i)) (hc:chk (f.take i) t=0):VL (f.take (i+1)):=by
 rw[take_step h];exact (chks_snoc _ _).2 ⟨hv,hc⟩
theorem tks_take (f:List Tk) (i:Nat):(tks f).take i=tks (f.take i):=by simp [tks,map_take]
theorem slc_tks (f:List Tk) (i:Nat) (hi:i<=f.length):sliceA false 3 (.sl .no 3 (tks f)) none (some (.int .i64 (i:Int)))=some (.sl .no 3 (tks (f.take i))):=by
 unfold sliceA boundA natOf;have h0:(0:Int)<=(i:Int):=by omega
 have h1:(0:Nat)<=i/\i<=(tks f).length/\((3:Nat)=3\/tks f=[]):=⟨by omega,by rw[tks_len];exact hi,.inl rfl⟩
 simp only[h0,if_true,Int.toNat_natCast];rw[if_pos ⟨h1.1,h1.2.1,.inl trivial⟩,drop_zero,tks_take]
theorem l46 (f:List Tk) (hl:f.length<=1000000):∀ (k i:Nat),i+k=f.length->VL (f.take i) ->
  (chks (f.take i) (f.drop i)=0->∃ l' m',execX G0 L91_0 (ST [(0,.sl .no 3 (tks f)),(12,.bool false),(13,.sl .no 3 (tks f)),(14,.int .i64 f.length),(15,.int .i64 i)] [] [])=some (.ex 0,ST l' m' [])) /\
  (chks (f.take i) (f.drop i)≠0->∃ l' m',execX G0 L91_0 (ST [(0,.sl .no 3 (tks f)),(12,.bool false),(13,.sl .no 3 (tks f)),(14,.int .i64 f.length),(15,.int .i64 i)] [] [])=some (.ret,ST l' m' [])/\look .any l' 2=.int .i64 (chks (f.take i) (f.drop i)))
 | 0,i,h,hv=>by
  have:i=f.length:=by omega
  subst this;refine⟨fun _=>?_,fun h=>(by simp [chks] at h)⟩;refine Exists.intro ?_ (Exists.intro ?_ ?_)
  rotate_left 2
  rw[Y_loop (L:=L91_0) rfl];simp only[go_sem,Int.lt_irrefl];rfl
 | k+1,i,h,hv=>by
  have hi:i < f.length:=by omega
  have h4:(i:Int) < (f.length:Int):=by omega
  have h0:(0:Int)<=(i:Int):=by omega
  have hw:IntKind.i64.wrap ((i:Int)+1)=((i+1:Nat):Int):=by rw[w64 (by omega) (by omega)];rfl
  have hg:f[i]?=some f[i]:=getElem?_eq_getElem hi;generalize f[i]=T at hg;have hr:=tks_at hg;obtain⟨kk,s,id⟩:=T;simp only[] at hr;have c68:=c68 f hl i kk s id hg;have c69:=c69 kk s id;have c70:=c70 (f.take i) (by simp;omega) (VL_len hv) kk s id;have hsl:=slc_tks f i (by omega);have ih:=fun hv=>l46 f hl k (i+1) (by omega) hv
  rw[chks_step hg];rw[chk_wfB] at *;cases hwf:wfB (f.take i) (kk,s,id) with
  | false =>
   rw[hwf] at c68;simp only[Bool.false_eq_true,if_false];refine⟨fun q=>(by simp at q),fun _=>?_⟩;refine Exists.intro ?_ (Exists.intro ?_ (And.intro ?_ ?_))
   rotate_left 2
   ·rw[Y_loop (L:=L91_0) rfl]
    simp only[go_sem,h4,h0,hr,hw,c68];rfl
   ·rfl
  | true =>
   rw[hwf] at c68;cases hT:isTag (kk,s,id) with
   | false =>
    rw[hT] at c69;have h00:chk (f.take i) (kk,s,id)=0:=by rw[chk_wfB,hwf,hT];rfl
    simp only[if_true,Bool.false_eq_true,if_false,ne_eq,not_true_eq_false];have step:execX G0 L91_0 (ST [(0,.sl .no 3 (tks f)),(12,.bool false),(13,.sl .no 3 (tks f)),(14,.int .i64 f.length),(15,.int .i64 i)] [] [])=execX G0 L91_0 (ST [(0,.sl .no 3 (tks f)),(12,.bool false),(13,.sl .no 3 (tks f)),(14,.int .i64 f.length),(15,.int .i64 ((i+1:Nat):Int))] [] []):=by
     conv=>lhs;rw[Y_loop (L:=L91_0) rfl]
     simp only[go_sem,h4,h0,hr,hw,c68,c69]
    rw[step];exact ih (VL_step hg hv h00)
   | true =>
    rw[hT] at c69;cases hF:fitsB (f.take i) (kk,s,id) with
    | true =>
     rw[hF] at c70;have h00:chk (f.take i) (kk,s,id)=0:=by rw[chk_wfB,hwf,hT,hF];rfl
     simp only[if_true,Bool.false_eq_true,if_false,ne_eq,not_true_eq_false];have step:execX G0 L91_0 (ST [(0,.sl .no 3 (tks f)),(12,.bool false),(13,.sl .no 3 (tks f)),(14,.int .i64 f.length),(15,.int .i64 i)] [] [])=execX G0 L91_0 (ST [(0,.sl .no 3 (tks f)),(12,.bool false),(13,.sl .no 3 (tks f)),(14,.int .i64 f.length),(15,.int .i64 ((i+1:Nat):Int))] [] []):=by
      conv=>lhs;rw[Y_loop (L:=L91_0) rfl]
      simp only[go_sem,h4,h0,hr,hw,c68,c69,hsl,c70]
     rw[step];exact ih (VL_step hg hv h00)
    | false =>
     rw[hF] at c70;simp only[if_true,Bool.false_eq_true,if_false,ne_eq];refine⟨fun q=>(by simp at q),fun _=>?_⟩;refine Exists.intro ?_ (Exists.intro ?_ (And.intro ?_ ?_))
     rotate_left 2
     ·rw[Y_loop (L:=L91_0) rfl]
      simp only[go_sem,h4,h0,hr,hw,c68,c69,hsl,c70];rfl
     ·rfl
theorem c46 (f:List Tk) (hl:f.length<=1000000) (hb:∀ t∈f,t.2.1.length<=cap47):G0 91 [.sl .no 3 (tks f)] []=some (.int .i64 (vld f),[]):=by
 refine contract F91 rfl rfl rfl ?_;unfold vld;by_cases h1:512 < f.length
 ·have h1':(512:Int) < (f.length:Int):=by omega
  rw[if_pos (.inl h1)];simp only[F91,go_sem,tks_len,h1']
 have h1':¬ (512:Int) < (f.length:Int):=by omega
 have c67:=c67 f (by omega) hb;by_cases h2:1024 < len f
 ·have h2':(1024:Int) < (len f:Int):=by omega
  rw[if_pos (.inr h2)];simp only[F91,go_sem,tks_len,h1',c67,h2']
 have h2':¬ (1024:Int) < (len f:Int):=by omega
 rw[if_neg (by omega)];obtain⟨x1,x2⟩:=l46 f hl f.length 0 (by omega) rfl;have ec:((0:Nat):Int)=0:=rfl;rw[drop_zero,take_zero,ec] at x1 x2;by_cases h:chks [] f=0
 ·obtain⟨l',m',y⟩:=x1 h
  rw[h];simp only[F91,go_sem,tks_len,h1',c67,h2',y,look_kill,look_setl,not_mem_nil,if_true,if_false]
 ·obtain⟨l',m',y1,y2⟩:=x2 h
  simp only[F91,go_sem,tks_len,h1',c67,h2',y1,y2]
theorem l21 (f:List Tk) (hl:f.length<=1000000):∀ (k i:Nat),i+k=f.length->VL (f.take i) ->
  (chks (f.take i) (f.drop i)=0->∃ l' m',execX G0 L84_0 (ST [(0,.sl .no 3 (tks f)),(12,.bool false),(14,.int .i64 f.length),(15,.int .i64 i)] [] [])=some (.ex 0,ST l' m' [])) /\
  (chks (f.take i) (f.drop i)≠0->∃ l' m',execX G0 L84_0 (ST [(0,.sl .no 3 (tks f)),(12,.bool false),(14,.int .i64 f.length),(15,.int .i64 i)] [] [])=some (.ret,ST l' m' [])/\look .any l' 2=.int .i64 (chks (f.take i) (f.drop i)))
 | 0,i,h,hv=>by
  have:i=f.length:=by omega
  subst this;refine⟨fun _=>?_,fun h=>(by simp [chks] at h)⟩;refine Exists.intro ?_ (Exists.intro ?_ ?_)
  rotate_left 2
  rw[Y_loop (L:=L84_0) rfl];simp only[go_sem,Int.lt_irrefl];rfl
 | k+1,i,h,hv=>by
  have hi:i < f.length:=by omega
  have h4:(i:Int) < (f.length:Int):=by omega
  have h0:(0:Int)<=(i:Int):=by omega
  have hw:IntKind.i64.wrap ((i:Int)+1)=((i+1:Nat):Int):=by rw[w64 (by omega) (by omega)];rfl
  have hg:f[i]?=some f[i]:=getElem?_eq_getElem hi;generalize f[i]=T at hg;have hr:=tks_at hg;obtain⟨kk,s,id⟩:=T;simp only[] at hr;have c48:=c48 (f.take i) (by simp;omega) (VL_len hv) kk s id;have hsl:=slc_tks f i (by omega);have ih:=fun hv=>l21 f hl k (i+1) (by omega) hv
  rw[chks_step hg];by_cases hc:chk (f.take i) (kk,s,id)=0
  ·simp only[hc,ne_eq,not_true_eq_false,if_false]
   have step:execX G0 L84_0 (ST [(0,.sl .no 3 (tks f)),(12,.bool false),(14,.int .i64 f.length),(15,.int .i64 i)] [] [])=execX G0 L84_0 (ST [(0,.sl .no 3 (tks f)),(12,.bool false),(14,.int .i64 f.length),(15,.int .i64 ((i+1:Nat):Int))] [] []):=by
    conv=>lhs;rw[Y_loop (L:=L84_0) rfl]
    rw[hc] at c48;simp only[go_sem,h4,h0,hr,hw,hsl,c48]
   rw[step];exact ih (VL_step hg hv hc)
  ·rw[if_pos hc]
   refine⟨fun q=>absurd q hc,fun _=>?_⟩;refine Exists.intro ?_ (Exists.intro ?_ (And.intro ?_ ?_))
   rotate_left 2
   ·rw[Y_loop (L:=L84_0) rfl]
    simp only[go_sem,h4,h0,hr,hw,hsl,c48,hc];rfl
   ·rfl
theorem c21 (f:List Tk) (hl:f.length<=1000000) (hb:∀ t∈f,t.2.1.length<=cap47):G0 84 [.sl .no 3 (tks f)] []=some (.int .i64 (vld f),[]):=by
 refine contract F84 rfl rfl rfl ?_;unfold vld;by_cases h1:512 < f.length
 ·have h1':(512:Int) < (f.length:Int):=by omega
  rw[if_pos (.inl h1)];simp only[F84,go_sem,tks_len,h1']
 have h1':¬ (512:Int) < (f.length:Int):=by omega
 have c15:=c15 f (by omega) hb;by_cases h2:1024 < len f
 ·have h2':(1024:Int) < (len f:Int):=by omega
  rw[if_pos (.inr h2)];simp only[F84,go_sem,tks_len,h1',c15,h2']
 have h2':¬ (1024:Int) < (len f:Int):=by omega
 rw[if_neg (by omega)];obtain⟨x1,x2⟩:=l21 f hl f.length 0 (by omega) rfl;have ec:((0:Nat):Int)=0:=rfl;rw[drop_zero,take_zero,ec] at x1 x2;by_cases h:chks [] f=0
 ·obtain⟨l',m',y⟩:=x1 h
  rw[h];simp only[F84,go_sem,tks_len,h1',c15,h2',y,look_kill,look_setl,not_mem_nil,if_true,if_false]
 ·obtain⟨l',m',y1,y2⟩:=x2 h
  simp only[F84,go_sem,tks_len,h1',c15,h2',y1,y2]
end Go.Av
namespace Go.Av
open Go.Nt
set_option maxHeartbeats 8000000
def bcl (b:Bs):List AV:=b.map fun c=>.int .u8 (c.toNat:Int)
theorem bcl_len (b:Bs):(bcl b).length=b.length:=by simp [bcl]
theorem bcl_app (a b:Bs):bcl (a++b)=bcl a++bcl b:=by simp [bcl]
theorem bcl_nown:∀ b:Bs,(bcl b).all nownB=true
 | []=>rfl
 | c :: b=>by
  show (nownB _ && (bcl b).all nownB)=true;rw[bcl_nown b];rfl
theorem bcl_blk:∀ b:Bs,blkB (bcl b)=true
 | []=>rfl
 | c :: b=>rfl
theorem rows_bcl (b:Bs):(bytesRows b).flatten=bcl b:=by
 induction b with
 | nil=>rfl
 | cons c b ih =>
  show [AV.int .u8 (c.toNat:Int)]++(bytesRows b).flatten=AV.int .u8 (c.toNat:Int) :: bcl b;rw[ih];rfl
theorem bytesRows_len (b:Bs):(bytesRows b).length=b.length:=by simp [bytesRows]
def BSt (v:AV) (sh:LL) (b:Bs):Prop:=
 (b=[]/\v=.sl .full 1 []/\sh=[])\/(∃ D:LL,v=.ss D.length 0 b.length 1/\sh=D++[bcl b])
theorem BSt.scrub {v:AV} {sh:LL} {b:Bs} (h:BSt v sh b) (k:List Nat):scrubV k v=v:=by
 rcases h with ⟨_,rfl,_⟩ | ⟨D,rfl,_⟩<;>rfl
theorem BSt.dem {v:AV} {sh:LL} {b:Bs} (h:BSt v sh b):demV v=v:=by
 rcases h with ⟨_,rfl,_⟩ | ⟨D,rfl,_⟩<;>rfl
theorem BSt.arg {v:AV} {sh:LL} {b:Bs} (h:BSt v sh b):argB true v=true:=by
 rcases h with ⟨_,rfl,_⟩ | ⟨D,rfl,_⟩<;>rfl
theorem appW {v:AV} {sh:LL} {b:Bs} (h:BSt v sh b) (r:Bs) (hr:r≠[]) (hl:b.length+r.length<=1000000):∃ v' sh',BSt v' sh' (b++r)/\appSA 1 1 sh (some (bytesRows r)) v=some (v',sh'):=by
 have ha:appOK 1 (b.length+r.length)=true:=appOK_le (by decide) (by omega);rcases h with ⟨rfl,rfl,rfl⟩ | ⟨D,rfl,rfl⟩
 ·cases r with
  | nil=>exact absurd rfl hr
  | cons c r =>
   refine⟨.ss 0 0 (c :: r).length 1,[bcl (c :: r)],.inr ⟨[],by simp,by simp⟩,?_⟩;have e:bytesRows (c :: r)=[AV.int .u8 (c.toNat:Int)] :: bytesRows r:=rfl;have e2:=rows_bcl (c :: r);rw[e] at e2 ⊢;simp only[length_nil,length_cons,Nat.zero_add] at ha;rw[appSA_nil 1 1 1 (by decide),bytesRows_len,if_pos ha,e2];rfl
 ·refine⟨.ss (D++[dead]).length 0 (b++r).length 1,(D++[dead])++[bcl (b++r)],.inr ⟨D++[dead],rfl,rfl⟩,?_⟩
  rw[appSA_ss D.length b.length 1 1 (by decide),bytesRows_len,if_pos ha,gD];simp only[Option.bind_some];rw[if_pos ⟨bcl_blk b,by rw[bcl_len];omega,bcl_nown b⟩,rows_bcl,sD,bcl_app,length_append,length_append,length_append];rfl
theorem bytesOf_bcl:∀ b:Bs,bytesOfR (bytesRows b)=some b
 | []=>rfl
 | c :: b=>by
  have e:bytesRows (c :: b)=[AV.int .u8 (c.toNat:Int)] :: bytesRows b:=rfl;rw[e];simp only[bytesOfR,byteOf,bytesOf_bcl b,Int.toNat_natCast];simp
theorem rowsC_bcl (b:Bs):rowsC 0 b.length 1 (bcl b)=some (bytesRows b):=by
 have h1:∀ b:Bs,(bcl b).all (fun x=>flatB (demV x))=true:=by
  intro b
  induction b with
  | nil=>rfl
  | cons c b ih =>
   show (flatB _ && (bcl b).all _)=true;rw[ih];rfl
 have h2:∀ b:Bs,(bcl b).map demV=bcl b:=by
  intro b
  induction b with
  | nil=>rfl
  | cons c b ih =>
   show demV _ :: (bcl b).map demV=_;rw[ih];rfl
 have h3:∀ b:Bs,rowsOf 1 b.length (bcl b)=bytesRows b:=by
  intro b
  induction b with
  | nil=>rfl
  | cons c b ih =>
   show (bcl (c :: b)).take 1 :: rowsOf 1 b.length ((bcl (c :: b)).drop 1)=_;have e:(bcl (c :: b)).drop 1=bcl b:=rfl;rw[e,ih];rfl
 unfold rowsC;have h4:((bcl b).drop 0).take (b.length*1)=bcl b:=by rw[drop_zero];exact take_of_length_le (by rw[bcl_len];omega)
 rw[h4,h2,h3,if_pos ⟨by decide,by rw[bcl_len];omega,h1 b⟩]
theorem BSt.str {v:AV} {sh:LL} {b:Bs} (h:BSt v sh b):b2sA sh v=some (.str b):=by
 rcases h with ⟨rfl,rfl,rfl⟩ | ⟨D,rfl,rfl⟩
 ·rfl
 ·rw[b2sA_ss,gD]
  simp only[Option.bind_some,rowsC_bcl,bytesOf_bcl,Option.map_some]
theorem wrt_len (c:UInt8):(wrt c).length<=4:=by
 have:=byte_all (fun c=>decide ((wrt c).length<=4)) (by decide) c
 simpa using this
theorem wrts_len (s:Bs):(s.flatMap wrt).length<=4*s.length:=by
 induction s with
 | nil=>simp
 | cons c s ih=>rw[flatMap_cons,length_append,length_cons];have:=wrt_len c;omega
theorem mks2c (x y:Int):mksA 1 [.int .u8 0] 2 [0,1] [.int .u8 x,.int .u8 y]=some (.sl .full 1 [[.int .u8 x],[.int .u8 y]]):=rfl
theorem mks4c (x y z t:Int):mksA 1 [.int .u8 0] 4 [0,1,2,3] [.int .u8 x,.int .u8 y,.int .u8 z,.int .u8 t]=some (.sl .full 1 [[.int .u8 x],[.int .u8 y],[.int .u8 z],[.int .u8 t]]):=rfl
theorem l51 (s:Bs) (hs:s.length<=100000):∀ (r p b:Bs) (v:AV) (sh:LL),s=p++r->BSt v sh b->b.length+4*r.length<=1000000 ->
  ∃ v' sh',BSt v' sh' (b++r.flatMap wrt)/\execX G0 L99_0 (ST [(0,v),(1,.str s),(5,.int .i64 p.length)] [] sh)=some (.ex 0,ST [(0,v'),(1,.str s),(5,.int .i64 s.length),(10,.bool false)] [] sh')
 | [],p,b,v,sh,h,hst,hl=>by
  have h:s=p:=by simp [h]
  subst h;refine⟨v,sh,by simpa using hst,?_⟩;have hs1:=hst.scrub;rw[Y_loop (L:=L99_0) rfl];simp only[go_sem,hs1,Int.lt_irrefl]
 | c :: r,p,b,v,sh,h,hst,hl=>by
  have hll:s.length=p.length+1+r.length:=by simp [h];omega
  have h4:(p.length:Int) < (s.length:Int):=by omega
  have h0:(0:Int)<=(p.length:Int):=by omega
  have h5:s[p.length]?=some c:=by rw[h];simp
  have hw:IntKind.i64.wrap ((p.length:Int)+1)=((p.length+1:Nat):Int):=by rw[w64 (by omega) (by omega)];rfl
  simp only[length_cons] at hl;have hwl:=wrt_len c;obtain⟨v1,sh1,q1,q2⟩:=appW hst (wrt c) (wrt_ne c) (by omega);obtain⟨v',sh',q3,q4⟩:=l51 s hs r (p++[c]) (b++wrt c) v1 sh1 (by simp [h]) q1 (by rw[length_append];omega);refine⟨v',sh',by rw[flatMap_cons,<- append_assoc];exact q3,?_⟩;have e1:((p++[c]).length:Int)=((p.length+1:Nat):Int):=by simp
  rw[e1] at q4;have hs0:=hst.scrub;have hs1:=q1.scrub;have hd0:=hst.dem;have hd1:=q1.dem;have c77:=c77' c;cases hp:plain c with
  | true =>
   rw[hp] at c77;rw[plain_wrt c hp] at q2;have q2:appSA 1 1 sh (some [[AV.int .u8 (c.toNat:Int)]]) v=some (v1,sh1):=q2;rw[Y_loop (L:=L99_0) rfl];simp only[go_sem,h4,h0,h5,hw,c77,hs0,hs1,hd0,hd1,mks1b,q2];exact q4
  | false =>
   rw[hp] at c77;have e10:(c.toNat:Int)=10↔c=10:=by rw[<- UInt8.toNat_inj];show _↔c.toNat=10;omega
   have e9:(c.toNat:Int)=9↔c=9:=by rw[<- UInt8.toNat_inj];show _↔c.toNat=9;omega
   have e92:(c.toNat:Int)=92↔c=92:=by rw[<- UInt8.toNat_inj];show _↔c.toNat=92;omega
   have e60:(c.toNat:Int)=60↔c=60:=by rw[<- UInt8.toNat_inj];show _↔c.toNat=60;omega
   have e123:(c.toNat:Int)=123↔c=123:=by rw[<- UInt8.toNat_inj];show _↔c.toNat=123;omega
   by_cases k1:c=10
   ·subst k1
    have n1:(((10:UInt8).toNat:Nat):Int)=10:=rfl;have q2:appSA 1 1 sh (some [[AV.int .u8 92],[AV.int .u8 110]]) v=some (v1,sh1):=q2;rw[Y_loop (L:=L99_0) rfl];rw[n1] at c77;simp only[go_sem,h4,h0,h5,hw,n1,c77,hs0,hs1,hd0,hd1,mks2c,q2];exact q4
   have k1':¬ (c.toNat:Int)=10:=fun q=>k1 (e10.1 q)
   by_cases k2:c=9
   ·subst k2
    have n1:(((9:UInt8).toNat:Nat):Int)=9:=rfl;have q2:appSA 1 1 sh (some [[AV.int .u8 92],[AV.int .u8 116]]) v=some (v1,sh1):=q2;rw[Y_loop (L:=L99_0) rfl];rw[n1] at c77;simp only[go_sem,h4,h0,h5,hw,n1,c77,hs0,hs1,hd0,hd1,mks2c,q2];exact q4
   have k2':¬ (c.toNat:Int)=9:=fun q=>k2 (e9.1 q)
   by_cases k3:c=92\/c=60\/c=123
   ·have ew:wrt c=[92,c]:=by unfold wrt;rw[if_pos k3]
    rw[ew] at q2;have q2:appSA 1 1 sh (some [[AV.int .u8 92],[AV.int .u8 (c.toNat:Int)]]) v=some (v1,sh1):=q2;rcases k3 with k3 | k3 | k3
    ·have k3':=e92.2 k3
     rw[k3'] at q2 c77;rw[Y_loop (L:=L99_0) rfl];simp only[go_sem,h4,h0,h5,hw,c77,k3',hs0,hs1,hd0,hd1,mks2c,q2];exact q4
    ·have k3':=e60.2 k3
     rw[k3'] at q2 c77;rw[Y_loop (L:=L99_0) rfl];simp only[go_sem,h4,h0,h5,hw,c77,k3',hs0,hs1,hd0,hd1,mks2c,q2];exact q4
    ·have k3':=e123.2 k3
     rw[k3'] at q2 c77;rw[Y_loop (L:=L99_0) rfl];simp only[go_sem,h4,h0,h5,hw,c77,k3',hs0,hs1,hd0,hd1,mks2c,q2];exact q4
   ·have k31:¬ (c.toNat:Int)=92:=fun q=>k3 (.inl (e92.1 q))
    have k32:¬ (c.toNat:Int)=60:=fun q=>k3 (.inr (.inl (e60.1 q)))
    have k33:¬ (c.toNat:Int)=123:=fun q=>k3 (.inr (.inr (e123.1 q)))
    have h4x:c=13\/ctl c=true:=by
     have:=byte_all (fun c=>plain c || decide (c=92) || decide (c=60) || decide (c=123) || decide (c=10) || decide (c=9) || decide (c=13) || ctl c) (by decide) c
     simp only[hp,Bool.false_or,Bool.or_eq_true,decide_eq_true_eq] at this;rcases this with (((((h | h) | h) | h) | h) | h) | h
     ·exact absurd (.inl h) k3
     ·exact absurd (.inr (.inl h)) k3
     ·exact absurd (.inr (.inr h)) k3
     ·exact absurd h k1
     ·exact absurd h k2
     ·exact .inl h
     ·exact .inr h
    have ew:=esc_x c h4x;rw[ew] at q2;have q2:appSA 1 1 sh (some [[AV.int .u8 92],[AV.int .u8 120],[AV.int .u8 ((hexd (c.toNat / 16)).toNat:Int)],[AV.int .u8 ((hexd (c.toNat % 16)).toNat:Int)]]) v=some (v1,sh1):=q2;have hlt:=c.toNat_lt;have a1:((c.toNat:Int)).fdiv (2 ^ (min 4 8))=((c.toNat / 16:Nat):Int):=by
     have:(2:Int) ^ (min 4 8)=16:=rfl
     rw[this,Int.fdiv_eq_ediv_of_nonneg _ (by omega)];omega
    have a2:IntKind.u8.wrap ((((c.toNat:Int) % 2 ^ 8).toNat &&& ((15:Int) % 2 ^ 8).toNat:Nat):Int)=((c.toNat % 16:Nat):Int):=by
     have e:(2:Int) ^ 8=256:=rfl;have e2:((15:Int) % 256).toNat=2 ^ 4 - 1:=rfl;have e3:((c.toNat:Int) % 256).toNat=c.toNat:=by omega
     rw[e,e2,e3,Nat.and_two_pow_sub_one_eq_mod,wu8 (by omega) (by omega)]
    have b0:(0:Int)<=((c.toNat / 16:Nat):Int):=by omega
    have b1:(0:Int)<=((c.toNat % 16:Nat):Int):=by omega
    have g1:=hexS_at (n:=c.toNat / 16) (by omega);have g2:=hexS_at (n:=c.toNat % 16) (by omega);simp only[hexS] at g1 g2;rw[Y_loop (L:=L99_0) rfl];simp only[go_sem,h4,h0,h5,hw,c77,k1',k2',k31,k32,k33,hs0,hs1,hd0,hd1,a1,a2,b0,b1,g1,g2,mks4c,q2];exact q4
theorem c51 {v:AV} {sh:LL} {b:Bs} (h:BSt v sh b) (s:Bs) (hs:s.length<=100000) (hl:b.length+4*s.length<=1000000):∃ v' sh',BSt v' sh' (b++s.flatMap wrt)/\G0 99 [v,.str s] sh=some (v',sh'):=by
 obtain⟨v',sh',q1,q2⟩:=l51 s hs s [] b v sh rfl h hl;have ec:((([]:Bs).length:Nat):Int)=0:=rfl;rw[ec] at q2;refine⟨v',sh',q1,?_⟩;refine contract F99 rfl rfl rfl ?_;have hs0:=h.scrub;have hs1:=q1.scrub;have hd1:=q1.dem;have hd0:=h.dem;simp only[F99,go_sem,hs0,hd0,q2,hs1,hd1];rcases q1 with ⟨_,rfl,rfl⟩ | ⟨D,rfl,rfl⟩
 ·simp only[go_sem]
 ·simp only[go_sem]
end Go.Av
namespace Go.Av
open Go.Nt
set_option maxHeartbeats 8000000
theorem addS (a b:Bs) (h:a.length+b.length<=140737488355328):binA .add (.str a) (.str b)=some (.str (a++b)):=by rw[bins_add,if_pos h]
theorem dec_len (n:Nat):(Nt.dec n).length<=3:=by unfold Nt.dec;split;simp;split<;>simp
theorem isC_len {s:Bs} (h:isC s=true):s.length<=64:=by
 unfold isC at h;simp only[Bool.and_eq_true,decide_eq_true_eq] at h;exact h.1.1.1.1
theorem chk_kind {f:List Tk} {k:Int} {s:Bs} {i:Int} (h:chk f (k,s,i)=0):(k=1/\i=0)\/(s.length<=64/\0<=i/\i<=999/\(k=2\/k=3\/k=4\/k=5)):=by
 by_cases hk:k=1
 ·subst hk;exact .inl ⟨rfl,((chk_text (x:=(1,s,i)) rfl).1 h).2.1⟩
 ·rcases chk_wf h hk with ⟨h1,_⟩ | ⟨h1,h2,h3⟩ | ⟨h1,h2,h3,h4⟩ | ⟨h1,h2,h3,h4⟩
  ·exact absurd h1 hk
  ·simp only[] at h1 h2 h3
   have:=(isNm_mem h2).2.1
   exact .inr ⟨by omega,by omega,by omega,.inr (.inr (.inr h1))⟩
  ·simp only[] at h1 h2 h3 h4
   have:=isC_len h2
   exact .inr ⟨by omega,by omega,by omega,by rcases h1 with h1 | h1<;>simp [h1]⟩
  ·simp only[] at h1 h2 h3 h4
   have:=(isNm_mem h2).2.1
   exact .inr ⟨by omega,by omega,by omega,.inr (.inl h1)⟩
theorem elt_len {f:List Tk} {x:Tk} (h:chk f x=0):(elt x).length<=4*wid x+80:=by
 obtain⟨k,s,i⟩:=x;have hd:=dec_len i.toNat;rcases chk_kind h with ⟨rfl,rfl⟩ | ⟨h1,_,_,h2⟩
 ·have:=wrts_len s
  show (s.flatMap wrt).length<=4*s.length+80;omega
 ·rcases h2 with rfl | rfl | rfl | rfl
  ·simp [elt];omega
  ·simp [elt];omega
  ·simp [elt];omega
  ·simp [elt];omega
theorem fmt_len {f:List Tk} (h:VL f):(fmt f).length<=4*len f+80*f.length:=by
 suffices ∀ (n:Nat) (f:List Tk),f.length=n->VL f->(fmt f).length<=4*len f+80*f.length from this _ f rfl h
 intro n
 induction n with
 | zero=>intro f hf _;rw[eq_nil_of_length_eq_zero hf];simp [fmt]
 | succ n ih =>
  intro f hf hv;rcases snoc_cases f with rfl | ⟨g,y,rfl⟩
  ·simp [fmt]
  ·obtain⟨a,b⟩:=(chks_snoc g y).1 hv
   have h1:=ih g (by simp at hf;exact hf) a;have h2:=elt_len b;rw[fmt_app,fmt_one,len_app,len_one,length_append,length_append,length_singleton];omega
theorem vld_len {f:List Tk} (h:vld f=0):(fmt f).length<=50000:=by
 obtain⟨h1,h2,h3⟩:=(vld_iff f).1 h
 have:=fmt_len h1
 omega
theorem VL_at {f:List Tk} (h:VL f) {i:Nat} {t:Tk} (hi:f[i]?=some t):chk (f.take i) t=0:=by
 have hs:=split_at hi;unfold VL at h;rw[hs,show f.take i++t :: f.drop (i+1)=(f.take i++[t])++f.drop (i+1) by simp,chks_app] at h;by_cases q:chks [] (f.take i++[t])=0
 ·exact ((chks_snoc _ _).1 q).2
 ·rw[if_pos q] at h;exact absurd h q
theorem fmt_drop {f:List Tk} {i:Nat} {t:Tk} (hi:f[i]?=some t):fmt (f.drop i)=elt t++fmt (f.drop (i+1)):=by
 have h:i < f.length:=by
  by_cases q:i < f.length
  ·exact q
  ·rw[getElem?_eq_none (by omega)] at hi;cases hi
 rw[drop_eq_getElem_cons h];rw[getElem?_eq_getElem h] at hi;simp only[Option.some.injEq] at hi;rw[hi];simp [fmt]
theorem l32 (f:List Tk) (hl:f.length<=1000) (hv:VL f):∀ (k i:Nat) (b:Bs) (v:AV) (sh:LL),i+k=f.length->BSt v sh b->b.length+(fmt (f.drop i)).length<=500000->len f<=100000 ->
  ∃ v' sh',BSt v' sh' (b++fmt (f.drop i))/\execX G0 L66_0 (ST [(4,.int .i64 0),(5,v),(12,.bool false),(14,.sl .no 3 (tks f)),(15,.int .i64 f.length),(16,.int .i64 i)] [] sh)=some (.ex 0,ST [(4,.int .i64 0),(5,v'),(12,.bool false),(14,.sl .no 3 (tks f)),(15,.int .i64 f.length),(16,.int .i64 f.length),(17,.bool false)] [] sh')
 | 0,i,b,v,sh,h,hst,hb,hL=>by
  have:i=f.length:=by omega
  subst this;refine⟨v,sh,by simpa [fmt] using hst,?_⟩;have hs1:=hst.scrub;rw[Y_loop (L:=L66_0) rfl];simp only[go_sem,hs1,Int.lt_irrefl]
 | k+1,i,b,v,sh,h,hst,hb,hL=>by
  have hi:i < f.length:=by omega
  have h4:(i:Int) < (f.length:Int):=by omega
  have h0:(0:Int)<=(i:Int):=by omega
  have hw:IntKind.i64.wrap ((i:Int)+1)=((i+1:Nat):Int):=by rw[w64 (by omega) (by omega)];rfl
  have hg:f[i]?=some f[i]:=getElem?_eq_getElem hi;generalize f[i]=T at hg;have hr:=tks_at hg;have hc:=VL_at hv hg;have he:=elt_len hc;rw[fmt_drop hg] at hb ⊢;rw[length_append] at hb;have hwl:wid T<=len f:=by
   have:=split_at hg
   rw[this,len_app,len_cons];omega
  obtain⟨kk,s,id⟩:=T;simp only[] at hr;have hs0:=hst.scrub;have hd0:=hst.dem;have ha0:=hst.arg;have fin:∀ v1 sh1,BSt v1 sh1 (b++elt (kk,s,id))->∃ v' sh',BSt v' sh' (b++(elt (kk,s,id)++fmt (f.drop (i+1))))/\execX G0 L66_0 (ST [(4,.int .i64 0),(5,v1),(12,.bool false),(14,.sl .no 3 (tks f)),(15,.int .i64 f.length),(16,.int .i64 ((i+1:Nat):Int))] [] sh1)=some (.ex 0,ST [(4,.int .i64 0),(5,v'),(12,.bool false),(14,.sl .no 3 (tks f)),(15,.int .i64 f.length),(16,.int .i64 f.length),(17,.bool false)] [] sh'):=by
   intro v1 sh1 q;obtain⟨v',sh',p1,p2⟩:=l32 f hl hv k (i+1) _ v1 sh1 (by omega) q (by rw[length_append];omega) hL;exact⟨v',sh',by rw[<- append_assoc];exact p1,p2⟩
  rcases chk_kind hc with ⟨rfl,rfl⟩ | ⟨h64,i0,i1,hk⟩
  ·have hw2:wid (1,s,0)=s.length:=rfl
   have ee:elt (1,s,0)=s.flatMap wrt:=rfl;obtain⟨v1,sh1,q1,q2⟩:=c51 hst s (by omega) (by omega);obtain⟨v',sh',p1,p2⟩:=fin v1 sh1 q1;refine⟨v',sh',p1,?_⟩;have hs1:=q1.scrub;have hd1:=q1.dem;have h50:=c50 0 (by omega);have ec:((0:Nat):Int)=0:=rfl;rw[ec] at h50;rw[Y_loop (L:=L66_0) rfl];simp only[go_sem,h4,h0,hr,hw,h50,q2,hs0,hd0,ha0,hs1,hd1];exact p2
  ·obtain⟨n,rfl⟩:=Int.eq_ofNat_of_zero_le i0
   have h50:=c50 n (by omega);have hd:=dec_len n;generalize hdn:Nt.dec n=d at hd h50;rcases hk with rfl | rfl | rfl | rfl
   ·have ee:elt (2,s,(n:Int))=[60]++d++[58]++s++[62]:=by simp [elt,hdn]
    obtain⟨v1,sh1,q1,q2⟩:=appW hst ([60]++d++[58]++s++[62]) (by simp) (by simp;omega);obtain⟨v',sh',p1,p2⟩:=fin v1 sh1 (by rw[ee];exact q1);refine⟨v',sh',p1,?_⟩;have hs1:=q1.scrub;have hd1:=q1.dem;have a1:=addS [60] d (by simp;omega);have a2:=addS ([60]++d) [58] (by simp;omega);have a3:=addS ([60]++d++[58]) s (by simp;omega);have a4:=addS ([60]++d++[58]++s) [62] (by simp;omega);generalize hX1:([60]++d:Bs)=X1 at *;generalize hX2:(X1++[58]:Bs)=X2 at *;generalize hX3:(X2++s:Bs)=X3 at *;generalize hX4:(X3++[62]:Bs)=X4 at *;rw[Y_loop (L:=L66_0) rfl];simp only[a1,a2,a3,a4,go_sem,h4,h0,hr,hw,h50,q2,hs0,hd0,ha0,hs1,hd1];exact p2
   ·have ee:elt (3,s,(n:Int))=[60,47]++d++[58]++s++[62]:=by simp [elt,hdn]
    obtain⟨v1,sh1,q1,q2⟩:=appW hst ([60,47]++d++[58]++s++[62]) (by simp) (by simp;omega);obtain⟨v',sh',p1,p2⟩:=fin v1 sh1 (by rw[ee];exact q1);refine⟨v',sh',p1,?_⟩;have hs1:=q1.scrub;have hd1:=q1.dem;have a1:=addS [60,47] d (by simp;omega);have a2:=addS ([60,47]++d) [58] (by simp;omega);have a3:=addS ([60,47]++d++[58]) s (by simp;omega);have a4:=addS ([60,47]++d++[58]++s) [62] (by simp;omega);generalize hX1:([60,47]++d:Bs)=X1 at *;generalize hX2:(X1++[58]:Bs)=X2 at *;generalize hX3:(X2++s:Bs)=X3 at *;generalize hX4:(X3++[62]:Bs)=X4 at *;rw[Y_loop (L:=L66_0) rfl];simp only[a1,a2,a3,a4,go_sem,h4,h0,hr,hw,h50,q2,hs0,hd0,ha0,hs1,hd1];exact p2
   ·have ee:elt (4,s,(n:Int))=[60]++d++[58]++s++[47,62]:=by simp [elt,hdn]
    obtain⟨v1,sh1,q1,q2⟩:=appW hst ([60]++d++[58]++s++[47,62]) (by simp) (by simp;omega);obtain⟨v',sh',p1,p2⟩:=fin v1 sh1 (by rw[ee];exact q1);refine⟨v',sh',p1,?_⟩;have hs1:=q1.scrub;have hd1:=q1.dem;have a1:=addS [60] d (by simp;omega);have a2:=addS ([60]++d) [58] (by simp;omega);have a3:=addS ([60]++d++[58]) s (by simp;omega);have a4:=addS ([60]++d++[58]++s) [47,62] (by simp;omega);generalize hX1:([60]++d:Bs)=X1 at *;generalize hX2:(X1++[58]:Bs)=X2 at *;generalize hX3:(X2++s:Bs)=X3 at *;generalize hX4:(X3++[47,62]:Bs)=X4 at *;rw[Y_loop (L:=L66_0) rfl];simp only[a1,a2,a3,a4,go_sem,h4,h0,hr,hw,h50,q2,hs0,hd0,ha0,hs1,hd1];exact p2
   ·have ee:elt (5,s,(n:Int))=[123]++s++[125]:=by simp [elt]
    obtain⟨v1,sh1,q1,q2⟩:=appW hst ([123]++s++[125]) (by simp) (by simp;omega);obtain⟨v',sh',p1,p2⟩:=fin v1 sh1 (by rw[ee];exact q1);refine⟨v',sh',p1,?_⟩;have hs1:=q1.scrub;have hd1:=q1.dem;have a1:=addS [123] s (by simp;omega);have a2:=addS ([123]++s) [125] (by simp;omega);generalize hX1:([123]++s:Bs)=X1 at *;generalize hX2:(X1++[125]:Bs)=X2 at *;rw[Y_loop (L:=L66_0) rfl];simp only[a1,a2,go_sem,h4,h0,hr,hw,h50,q2,hs0,hd0,ha0,hs1,hd1];exact p2
def fmtE (f:List Tk):Bs:=if vld f=0 then fmt f else []
theorem c32 (f:List Tk) (hl:f.length<=1000000) (hb:∀ t∈f,t.2.1.length<=cap47):G0 66 [.sl .no 3 (tks f)] []=some (.tup [.str (fmtE f),.int .i64 (vld f)],[]):=by
 refine contract F66 rfl rfl rfl ?_;have h46:=c46 f hl hb;unfold fmtE;by_cases h:vld f=0
 ·rw[if_pos h,h]
  rw[h] at h46;obtain⟨h1,h2,h3⟩:=(vld_iff f).1 h;have hf:=vld_len h;obtain⟨v',sh',q1,q2⟩:=l32 f (by omega) h1 f.length 0 [] (.sl .full 1 []) [] (by omega) (.inl ⟨rfl,rfl,rfl⟩) (by rw[drop_zero];simp only[length_nil];omega) (by omega);have ec:((0:Nat):Int)=0:=rfl;rw[drop_zero,nil_append] at q1;rw[ec] at q2;have hs1:=q1.scrub;have hd1:=q1.dem;have hq:=q1.str;have hsd:sameDead [] sh'=true:=rfl;simp only[F66,go_sem,h46,tks_len,q2,hs1,hd1,hq,hsd]
 ·rw[if_neg h]
  simp only[F66,go_sem,h46,h]
theorem l52 (k0:Int) (id:Int) (s:Bs) (hs:s.length<=100000):∀ (r p out:Bs),s=p++r->out.length+4*r.length<=1000000 ->
  execX G0 L100_0 (ST [(1,.loc 1 0),(3,.str out),(4,.int .i64 p.length),(6,.int .i64 k0),(7,.bool true)] [(1,some [.int .i64 k0,.str s,.int .i64 id])] [])=some (.ex 1,ST [(1,.loc 1 0),(3,.str (out++r.flatMap wrt)),(4,.int .i64 s.length),(6,.int .i64 k0),(7,.bool true),(13,.bool false)] [(1,some [.int .i64 k0,.str s,.int .i64 id])] [])
 | [],p,out,h,hl=>by
  have h:s=p:=by simp [h]
  subst h;rw[Y_loop (L:=L100_0) rfl];simp only[go_sem,Int.lt_irrefl,flatMap_nil,append_nil]
 | c :: r,p,out,h,hl=>by
  have hll:s.length=p.length+1+r.length:=by simp [h];omega
  have h4:(p.length:Int) < (s.length:Int):=by omega
  have h0:(0:Int)<=(p.length:Int):=by omega
  have h5:s[p.length]?=some c:=by rw[h];simp
  have hw:IntKind.i64.wrap ((p.length:Int)+1)=((p.length+1:Nat):Int):=by rw[w64 (by omega) (by omega)];rfl
  simp only[length_cons] at hl;have hwl:=wrt_len c;have c78:G0 130 [.int .u8 (c.toNat:Int)] []=some (.str (wrt c),[]):=c78 c;have ih:=l52 k0 id s hs r (p++[c]) (out++wrt c) (by simp [h]) (by rw[length_append];omega);have e1:((p++[c]).length:Int)=((p.length+1:Nat):Int):=by simp
  rw[e1] at ih;have hc:out.length+(wrt c).length<=140737488355328:=by omega
  rw[flatMap_cons,<- append_assoc];rw[Y_loop (L:=L100_0) rfl];simp only[go_sem,h4,h0,h5,hw,c78,hc];exact ih
theorem c52 {f:List Tk} {k:Int} {s:Bs} {i:Int} (h:chk f (k,s,i)=0) (hs:s.length<=100000):G0 100 [.agg [.int .i64 k,.str s,.int .i64 i]] []=some (.str (elt (k,s,i)),[]):=by
 refine contract F100 rfl rfl rfl ?_;rcases chk_kind h with ⟨rfl,rfl⟩ | ⟨h64,i0,i1,hk⟩
 ·have ee:elt (1,s,0)=s.flatMap wrt:=rfl
  have x:=l52 1 0 s hs s [] [] rfl (by simp;omega);have ec:((([]:Bs).length:Nat):Int)=0:=rfl;rw[ec,nil_append] at x;rw[ee];simp only[F100,go_sem,x]
 ·obtain⟨n,rfl⟩:=Int.eq_ofNat_of_zero_le i0
  have h79:=c79 n (by omega);have hd:=dec_len n;generalize hdn:Nt.dec n=d at hd h79;rcases hk with rfl | rfl | rfl | rfl
  ·have ee:elt (2,s,(n:Int))=[60]++d++[58]++s++[62]:=by simp [elt,hdn]
   have a1:=addS [60] d (by simp;omega);have a2:=addS ([60]++d) [58] (by simp;omega);have a3:=addS ([60]++d++[58]) s (by simp;omega);have a4:=addS ([60]++d++[58]++s) [62] (by simp;omega);rw[ee];generalize hX1:([60]++d:Bs)=X1 at *;generalize hX2:(X1++[58]:Bs)=X2 at *;generalize hX3:(X2++s:Bs)=X3 at *;generalize hX4:(X3++[62]:Bs)=X4 at *;simp only[F100,a1,a2,a3,a4,go_sem,h79]
  ·have ee:elt (3,s,(n:Int))=[60,47]++d++[58]++s++[62]:=by simp [elt,hdn]
   have a1:=addS [60,47] d (by simp;omega);have a2:=addS ([60,47]++d) [58] (by simp;omega);have a3:=addS ([60,47]++d++[58]) s (by simp;omega);have a4:=addS ([60,47]++d++[58]++s) [62] (by simp;omega);rw[ee];generalize hX1:([60,47]++d:Bs)=X1 at *;generalize hX2:(X1++[58]:Bs)=X2 at *;generalize hX3:(X2++s:Bs)=X3 at *;generalize hX4:(X3++[62]:Bs)=X4 at *;simp only[F100,a1,a2,a3,a4,go_sem,h79]
  ·have ee:elt (4,s,(n:Int))=[60]++d++[58]++s++[47,62]:=by simp [elt,hdn]
   have a1:=addS [60] d (by simp;omega);have a2:=addS ([60]++d) [58] (by simp;omega);have a3:=addS ([60]++d++[58]) s (by simp;omega);have a4:=addS ([60]++d++[58]++s) [47,62] (by simp;omega);rw[ee];generalize hX1:([60]++d:Bs)=X1 at *;generalize hX2:(X1++[58]:Bs)=X2 at *;generalize hX3:(X2++s:Bs)=X3 at *;generalize hX4:(X3++[47,62]:Bs)=X4 at *;simp only[F100,a1,a2,a3,a4,go_sem,h79]
  ·have ee:elt (5,s,(n:Int))=[123]++s++[125]:=by simp [elt]
   have a1:=addS [123] s (by simp;omega);have a2:=addS ([123]++s) [125] (by simp;omega);rw[ee];generalize hX1:([123]++s:Bs)=X1 at *;generalize hX2:(X1++[125]:Bs)=X2 at *;simp only[F100,a1,a2,go_sem]
theorem l33 (f:List Tk) (hl:f.length<=1000) (hv:VL f) (hL:len f<=20000):∀ (k i:Nat) (b:Bs),i+k=f.length->b.length+(fmt (f.drop i)).length<=500000 ->
  execX G0 L70_0 (ST [(0,.sl .no 3 (tks f)),(4,.int .i64 0),(5,.str b),(10,.bool false),(13,.int .i64 f.length),(14,.int .i64 i)] [] [])=some (.ex 0,ST [(0,.sl .no 3 (tks f)),(4,.int .i64 0),(5,.str (b++fmt (f.drop i))),(10,.bool false),(13,.int .i64 f.length),(14,.int .i64 f.length),(15,.bool false)] [] [])
 | 0,i,b,h,hb=>by
  have:i=f.length:=by omega
  subst this;have e:fmt (f.drop f.length)=[]:=by simp [fmt]
  rw[e,append_nil];rw[Y_loop (L:=L70_0) rfl];simp only[go_sem,Int.lt_irrefl]
 | k+1,i,b,h,hb=>by
  have hi:i < f.length:=by omega
  have h4:(i:Int) < (f.length:Int):=by omega
  have h0:(0:Int)<=(i:Int):=by omega
  have hw:IntKind.i64.wrap ((i:Int)+1)=((i+1:Nat):Int):=by rw[w64 (by omega) (by omega)];rfl
  have hg:f[i]?=some f[i]:=getElem?_eq_getElem hi;generalize f[i]=T at hg;have hr:=tks_at hg;have hc:=VL_at hv hg;have he:=elt_len hc;rw[fmt_drop hg] at hb ⊢;rw[length_append] at hb;have hwl:wid T<=len f:=by
   have:=split_at hg
   rw[this,len_app,len_cons];omega
  obtain⟨kk,s,id⟩:=T;simp only[] at hr;have hsl:s.length<=100000:=by
   rcases chk_kind hc with ⟨rfl,rfl⟩ | ⟨h64,_⟩
   ·have:wid (1,s,0)=s.length:=rfl
    omega
   ·omega
  have h52:=c52 hc hsl;have ih:=l33 f hl hv hL k (i+1) (b++elt (kk,s,id)) (by omega) (by rw[length_append];omega);have hcc:b.length+(elt (kk,s,id)).length<=140737488355328:=by omega
  rw[<- append_assoc];generalize elt (kk,s,id)=E at *;rw[Y_loop (L:=L70_0) rfl];simp only[go_sem,h4,h0,hr,hw,h52,hcc];exact ih
theorem c33 (f:List Tk) (hl:f.length<=1000000) (hb:∀ t∈f,t.2.1.length<=cap47):G0 70 [.sl .no 3 (tks f)] []=some (.tup [.str (fmtE f),.int .i64 (vld f)],[]):=by
 refine contract F70 rfl rfl rfl ?_;have h21:=c21 f hl hb;unfold fmtE;by_cases h:vld f=0
 ·rw[if_pos h,h]
  rw[h] at h21;obtain⟨h1,h2,h3⟩:=(vld_iff f).1 h;have hf:=vld_len h;have x:=l33 f (by omega) h1 (by omega) f.length 0 [] (by omega) (by rw[drop_zero];simp only[length_nil];omega);have ec:((0:Nat):Int)=0:=rfl;rw[drop_zero,nil_append,ec] at x;simp only[F70,go_sem,h21,tks_len,x]
 ·rw[if_neg h]
  simp only[F70,go_sem,h21,h]
end Go.Av
