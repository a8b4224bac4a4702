/- Groups of repetitions: lists in a list, each an object of its own. Groups of repetitions: the program's walk. Groups of repetitions as plain data. Groups of the reference, and the comparison. The law of the first repetitions. Tokens: bytes, words, numbers, runs of spaces. No conditions. Tokens: the reference's words and numbers. No conditions. Tokens: keys, cutting a text. No conditions. Kinds, weights, keys and prices of tokens, by the program and by the reference. No conditions. Prices of pairs of tokens, totals. No conditions. Prices of pairs by the reference; totals. No conditions. -/
import Derived.Test.YtgbjlnijjonidaaDoorG1XE
import Derived.Test.YtgbjlnijjonidaaDoorG1XC
import Derived.Test.YtgbjlnijjonidaaDoorG1XA
open List
set_option linter.unusedSimpArgs false
set_option linter.unusedVariables false
set_option linter.unusedSectionVars false
set_option maxRecDepth 100000
set_option maxHeartbeats 16000000
namespace Go.Av
open Go.Nt
theorem jX.ext {sh:LL} (h:jX sh) (rows:LL):jX (sh++[[.mapv rows]]):=by
 unfold jX at h ⊢;have mono:∀ (n:Nat) (x:AV),cR n x=true->cR (n+1) x=true:=by
  intro n x hx
  cases x<;>first | rfl | (simp only[cR,decide_eq_true_eq] at hx ⊢;omega)
 rw[length_append,length_singleton,all_append,Bool.and_eq_true];constructor
 ·rw[all_eq_true] at h ⊢
  intro c hc
  have:=h c hc
  rw[all_eq_true] at this ⊢;exact fun x hx=>mono _ x (this x hx)
 ·rfl
theorem LV.ext {V:AV} {sh:LL} {L:List (List Tk)} (h:LV V sh L) (X:LL):LV V (sh++X) L:=
 ⟨h.len,h.scrub,h.dem,h.arg,fun i f hf=>by
  obtain⟨P,h1,h2⟩:=h.at_ i f hf
  exact⟨P,h1,fun Y m=>by rw[append_assoc];exact h2 (X++Y) m⟩⟩
section
variable {S:LL} {Mp:List AV} {E:LL}
theorem sg (o:Nat):(S++(Mp :: E))[S.length+1+o]?=E[o]?:=by
 rw[getElem?_append_right (by omega),show S.length+1+o - S.length=o+1 by omega,getElem?_cons_succ]
theorem ss_ (o:Nat) (x:List AV):(S++(Mp :: E)).set (S.length+1+o) x=S++(Mp :: E.set o x):=by
 rw[set_append_right _ _ (by omega),show S.length+1+o - S.length=o+1 by omega,set_cons_succ]
theorem sl_:(S++(Mp :: E)).length=S.length+1+E.length:=by rw[length_append,length_cons];omega
theorem sqQ (x:List AV):(S++(Mp :: E)).set S.length x=S++(x :: E):=by
 rw[set_append_right _ _ (by omega),Nat.sub_self];rfl
theorem sc (c:List AV):(S++(Mp :: E))++[c]=S++(Mp :: (E++[c])):=by simp
end
theorem ED (S E rows:LL):fY (S++([.mapv rows] :: E)) S.length=some rows:=by
 unfold fY;rw[getElem?_append_right (by omega),Nat.sub_self];rfl
def dA (q:Nat) (I:List Nat) (G:List (List Int)):List AV:=List.zipWith (fun o g=>AV.ss (q+1+o) 0 g.length 1) I G
theorem nK {q:Nat} {I:List Nat} {G:List (List Int)} (h:I.length=G.length):(dA q I G).length=G.length:=by unfold dA;rw[length_zipWith,h,Nat.min_self]
theorem FL {q:Nat} {I:List Nat} {G:List (List Int)} {j o:Nat} {g:List Int} (h1:I[j]?=some o) (h2:G[j]?=some g):(dA q I G)[j]?=some (.ss (q+1+o) 0 g.length 1):=by
 unfold dA;rw[getElem?_zipWith,h1,h2]
theorem B5 {q:Nat} {I:List Nat} {G:List (List Int)} (h:I.length=G.length) (o:Nat) (g:List Int):dA q (I++[o]) (G++[g])=dA q I G++[.ss (q+1+o) 0 g.length 1]:=by
 unfold dA;rw[zipWith_append h];rfl
theorem B4 {q:Nat} {I:List Nat} {G:List (List Int)} (h:I.length=G.length) (j o:Nat) (g:List Int):(dA q I G).set j (.ss (q+1+o) 0 g.length 1)=dA q (I.set j o) (G.set j g):=by
 apply ext_getElem?;intro i;unfold dA;rw[getElem?_set,getElem?_zipWith,getElem?_zipWith,getElem?_set,getElem?_set,length_zipWith,h,Nat.min_self];by_cases hi:j=i
 ·subst hi
  rw[if_pos rfl,if_pos rfl,if_pos rfl];by_cases hl:j < G.length
  ·simp only[if_pos hl]
  ·simp only[if_neg hl]
 ·rw[if_neg hi,if_neg hi,if_neg hi]
theorem sF (p:AV->Bool) (hp:∀ o n,p (.ss o 0 n 1)=true) (q:Nat):∀ (I:List Nat) (G:List (List Int)),(dA q I G).all p=true
 | [],_=>rfl
 | _ :: _,[]=>rfl
 | i :: I,g :: G=>by
  show (p _ && (dA q I G).all p)=true;rw[hp,sF p hp q I G];rfl
theorem tZ {c:List AV} (h:∀ x∈c,(∃ o n,x=.ss o 0 n 1)\/(∃ k n,x=.int k n)\/x=.sl .full 1 []):bP c=true:=by
 cases c with
 | nil=>rfl
 | cons a c =>
  rcases h a (by simp) with ⟨o,n,rfl⟩ | ⟨k,n,rfl⟩ | rfl<;>(cases c<;>rfl)
theorem nJ {q:Nat} {I:List Nat} {G:List (List Int)}:∀ x∈dA q I G,∃ o n,x=.ss o 0 n 1:=by
 intro x hx;obtain⟨j,hj⟩:=mem_iff_getElem?.1 hx;unfold dA at hj;rw[getElem?_zipWith] at hj;cases h1:I[j]? with
 | none=>rw[h1] at hj;cases hj
 | some o =>
  cases h2:G[j]? with
  | none=>rw[h1,h2] at hj;cases hj
  | some g=>rw[h1,h2] at hj;cases hj;exact⟨_,_,rfl⟩
theorem I5 (g:List Int):bP (icl g)=true:=tZ fun x hx=>by
 obtain⟨v,_,rfl⟩:=mem_map.1 hx;exact .inr (.inl ⟨_,_,rfl⟩)
theorem vF:∀ g:List Int,(icl g).all eE=true
 | []=>rfl
 | a :: g=>by
  show (eE _ && (icl g).all eE)=true;rw[vF g];rfl
theorem uS {c:List AV} {i:Nat} (h:i < c.length) (x:AV):dW i [x] c=some (c.set i x):=by
 unfold dW;rw[if_pos (by simp;omega)]
 congr 1
 rw[set_eq_take_append_cons_drop,if_pos h];simp
def REF (n:Nat) (E:LL):Prop:=∀ c∈E,∀ x∈c,cR n x=true
theorem REF.set {n:Nat} {E:LL} (h:REF n E) (i:Nat) {c:List AV} (hc:∀ x∈c,cR n x=true):REF n (E.set i c):=by
 intro d hd;rcases mem_or_eq_of_mem_set hd with q | q
 ·exact h d q
 ·rw[q];exact hc
theorem REF.app {n:Nat} {E:LL} (h:REF n E) {c:List AV} (hc:∀ x∈c,cR n x=true):REF n (E++[c]):=by
 intro d hd;rcases mem_append.1 hd with q | q
 ·exact h d q
 ·rw[mem_singleton] at q;rw[q];exact hc
theorem yW {n n':Nat} (h:n<=n') {x:AV} (hx:cR n x=true):cR n' x=true:=by
 cases x<;>first | rfl | (simp only[cR,decide_eq_true_eq] at hx ⊢;omega)
theorem REF.mono {n n':Nat} {E:LL} (h:REF n E) (hn:n<=n'):REF n' E:=fun c hc x hx=>yW hn (h c hc x hx)
theorem yV (n:Nat) (g:List Int):∀ x∈icl g,cR n x=true:=fun x hx=>by
 obtain⟨v,_,rfl⟩:=mem_map.1 hx;rfl
theorem pI (n:Nat):∀ x∈bB,cR n x=true:=fun x hx=>by
 simp only[bB,mem_singleton] at hx;subst hx;rfl
theorem mY {q n m:Nat} {I:List Nat} {G:List (List Int)} (h:∀ (j a:Nat),I[j]?=some a->a < m) (hn:q+1+m<=n):∀ x∈dA q I G,cR n x=true:=by
 intro x hx;obtain⟨j,hj⟩:=mem_iff_getElem?.1 hx;unfold dA at hj;rw[getElem?_zipWith] at hj;cases h1:I[j]? with
 | none=>rw[h1] at hj;cases hj
 | some o =>
  cases h2:G[j]? with
  | none=>rw[h1,h2] at hj;cases hj
  | some g =>
   rw[h1,h2] at hj;cases hj
   have:=h j o h1
   simp only[cR,decide_eq_true_eq];omega
def GS (q:Nat) (v:AV) (E:LL) (G:List (List Int)):Prop:=
 (G=[]/\v=.sl .full 1 []/\E=[])\/∃ (o:Nat) (I:List Nat),v=.ss (q+1+o) 0 G.length 1/\I.length=G.length/\E[o]?=some (dA q I G) /\
  (∀ (j a:Nat),I[j]?=some a->a≠o)/\(∀ (j j' a:Nat),I[j]?=some a->I[j']?=some a->j=j')/\(∀ (j a:Nat) (g:List Int),I[j]?=some a->G[j]?=some g->E[a]?=some (icl g))/\REF (q+1+E.length) E
theorem GS.scrub {q:Nat} {v:AV} {E:LL} {G:List (List Int)} (h:GS q v E G) (k:List Nat):aQ k v=v:=by
 rcases h with ⟨_,rfl,_⟩ | ⟨o,I,rfl,_⟩<;>rfl
theorem GS.dem {q:Nat} {v:AV} {E:LL} {G:List (List Int)} (h:GS q v E G):aH v=v:=by
 rcases h with ⟨_,rfl,_⟩ | ⟨o,I,rfl,_⟩<;>rfl
theorem GS.len {q:Nat} {v:AV} {E:LL} {G:List (List Int)} (h:GS q v E G):qB false v=some (.int .i64 (G.length:Int)):=by
 rcases h with ⟨rfl,rfl,_⟩ | ⟨o,I,rfl,_⟩<;>rfl
theorem fE {α:Type} {l:List α} {i:Nat} {x:α} (h:l[i]?=some x):i < l.length:=by
 by_cases q:i < l.length
 ·exact q
 ·rw[getElem?_eq_none (by omega)] at h;cases h
theorem YE {I:List Nat} {G:List (List Int)} (h:I.length=G.length) {j:Nat} (hj:j < G.length):∃ a,I[j]?=some a:=⟨I[j]'(by omega),getElem?_eq_getElem (by omega)⟩
theorem GS.more {S:LL} {Mp:List AV} {v:AV} {E:LL} {G:List (List Int)} (h:GS S.length v E G) {j:Nat} {g:List Int} (hg:G[j]?=some g) (i:Int) (hl:g.length<=1000000) :
  ∃ P W W' sh2 E3,iaK 1 v (.int .i64 (j:Int))=some P/\(∀ m,ldA .sh false 1 m (S++(Mp :: E)) P=some W)/\eS 1 8 (S++(Mp :: E)) (some [[.int .i64 i]]) W=some (W',sh2)/\cX 1 W'=some [W'] /\
   (∀ l m,stX .sh 1 l m sh2 P (some [W'])=some (ST l m (S++(Mp :: E3))))/\GS S.length v E3 (G.set j (g++[i])):=by
 have hjl:=fE hg;rcases h with ⟨rfl,_,_⟩ | ⟨o,I,rfl,h1,h2,h3,h4,h5,h6⟩
 ·simp at hjl
 obtain⟨a,ha⟩:=YE h1 hjl;have hao:=h3 j a ha;have hEa:=h5 j a g ha hg;have hol:=fE h2;have hal:=fE hEa;have happ:cG 8 (g.length+1)=true:=bH (by decide) (by omega);refine⟨.ptr (S.length+1+o) j,.ss (S.length+1+a) 0 g.length 1,.ss (S.length+1+E.length) 0 (g++[i]).length 1,S++(Mp :: (E.set a bB++[icl (g++[i])])),(E.set a bB++[icl (g++[i])]).set o (dA S.length (I.set j E.length) (G.set j (g++[i]))),?_,?_,?_,rfl,?_,?_⟩
 ·rw[kM,if_pos (by omega),Int.toNat_natCast];simp
 ·intro m
  rw[lV,sg,h2];simp only[Option.bind_some,ldC,Bool.false_eq_true,if_false,FL ha hg];rfl
 ·rw[mL _ _ 8 1 (by decide),length_singleton,if_pos happ,sg,hEa]
  simp only[Option.bind_some];rw[if_pos ⟨I5 g,by rw[lZ];omega,vF g⟩,ss_,sc,sl_,length_append];simp [icl]
 ·intro l m
  have e2:(E.set a bB++[icl (g++[i])])[o]?=some (dA S.length I G):=by
   rw[getElem?_append_left (by simp;exact hol),getElem?_set,if_neg hao];exact h2
  rw[oJ,sg,e2];simp only[Option.bind_some];rw[if_pos (tZ fun x hx=>.inl (nJ x hx)),uS (by rw[nK h1];exact hjl),B4 h1,Option.map_some,ss_]
 ·refine .inr ⟨o,I.set j E.length,by simp,by simp [h1],?_,?_,?_,?_,?_⟩
  ·rw[getElem?_set,if_pos rfl,if_pos (by simp;omega)]
  ·intro j' b hb
   rw[getElem?_set] at hb
   split at hb
   ·split at hb
    ·cases hb;omega
    ·cases hb
   ·exact h3 j' b hb
  ·intro j1 j2 b hb1 hb2
   have fresh:∀ j':Nat,I[j']?≠some E.length:=by
    intro j' hj';have hjl':j' < G.length:=by have:=fE hj';omega
    have:=fE (h5 j' E.length G[j'] hj' (getElem?_eq_getElem hjl'))
    omega
   rw[getElem?_set] at hb1 hb2
   split at hb1
   ·rename_i e1
    split at hb1
    ·cases hb1
     split at hb2
     ·rename_i e2;rw[<- e1,<- e2]
     ·exact absurd hb2 (fresh _)
    ·cases hb1
   ·split at hb2
    ·split at hb2
     ·cases hb2;exact absurd hb1 (fresh _)
     ·cases hb2
    ·exact h4 j1 j2 b hb1 hb2
  ·intro j' b g' hb hg'
   have hlen:(E.set a bB).length=E.length:=by simp
   rw[getElem?_set] at hb hg';by_cases e:j=j'
   ·rw[if_pos e] at hb hg'
    split at hb
    ·cases hb
     split at hg'
     ·cases hg'
      rw[getElem?_set,if_neg (by omega),getElem?_append_right (by omega),hlen,Nat.sub_self];rfl
     ·omega
    ·cases hb
   ·rw[if_neg e] at hb hg'
    have hb0:=h5 j' b g' hb hg';have hbl:=fE hb0;have hba:a≠b:=fun q=>e (h4 j j' a ha (by rw[q];exact hb))
    rw[getElem?_set,if_neg (fun q=>h3 j' b hb q.symm),getElem?_append_left (by omega),getElem?_set,if_neg hba];exact hb0
  ·rw[length_set,length_append,length_set,length_singleton]
   refine ((((h6.mono (by omega)).set a (pI _)).app (yV _ _)).set o (mY (m:=E.length+1) ?_ (by omega)));intro j' b hb;rw[getElem?_set] at hb
   split at hb
   ·split at hb
    ·cases hb;omega
    ·cases hb
   ·have hj':j' < G.length:=by have:=fE hb;omega
    have:=fE (h5 j' b G[j'] hb (getElem?_eq_getElem hj'))
    omega
theorem GS.new {S:LL} {Mp:List AV} {v:AV} {E:LL} {G:List (List Int)} (h:GS S.length v E G) (i:Int) (hl:G.length<=1000000) :
  ∃ v1 sh1 P W W' sh2 E3,eS 1 24 (S++(Mp :: E)) (some [[.sl .full 1 []]]) v=some (v1,sh1)/\(∀ k,aQ k v1=v1)/\aH v1=v1 /\
   iaK 1 v1 (.int .i64 (G.length:Int))=some P/\(∀ m,ldA .sh false 1 m sh1 P=some W)/\eS 1 8 sh1 (some [[.int .i64 i]]) W=some (W',sh2)/\cX 1 W'=some [W'] /\
   (∀ l m,stX .sh 1 l m sh2 P (some [W'])=some (ST l m (S++(Mp :: E3))))/\GS S.length v1 E3 (G++[[i]]):=by
 have outer:∃ (E0:LL) (I:List Nat),I.length=G.length/\(∀ (j j' a:Nat),I[j]?=some a->I[j']?=some a->j=j')/\(∀ (j a:Nat) (g:List Int),I[j]?=some a->G[j]?=some g->E0[a]?=some (icl g))/\REF (S.length+1+E0.length) E0 /\
   eS 1 24 (S++(Mp :: E)) (some [[.sl .full 1 []]]) v=some (.ss (S.length+1+E0.length) 0 (G.length+1) 1,S++(Mp :: (E0++[dA S.length I G++[.sl .full 1 []]]))):=by
  have happ:cG 24 (G.length+1)=true:=bH (by decide) (by omega);rcases h with ⟨rfl,rfl,rfl⟩ | ⟨o,I,rfl,h1,h2,h3,h4,h5,h6⟩
  ·refine⟨[],[],rfl,by simp,by simp,fun c hc=>(by cases hc),?_⟩
   rw[jT 1 24 1 (by decide),if_pos (show cG 24 (([]:LL).length+1)=true from happ),sl_,sc];rfl
  ·have hol:=fE h2
   refine⟨E.set o bB,I,h1,h4,?_,by rw[length_set];exact h6.set o (pI _),?_⟩
   ·intro j a g ha hg
    rw[getElem?_set,if_neg (fun q=>h3 j a ha q.symm)];exact h5 j a g ha hg
   ·rw[mL _ _ 24 1 (by decide),length_singleton,if_pos happ,sg,h2]
    simp only[Option.bind_some];rw[if_pos ⟨tZ fun x hx=>.inl (nJ x hx),by rw[nK h1];omega,sF eE (fun _ _=>rfl) _ _ _⟩,ss_,sc,sl_,length_set];simp
 obtain⟨E0,I,h1,h4,h5,h6,happ⟩:=outer;have hcl:=nK (q:=S.length) h1;have a8:cG 8 (([]:LL).length+1)=true:=by decide
 have hI:∀ (j a:Nat),I[j]?=some a->a < E0.length:=by
  intro j a ha;have hj:j < G.length:=by have:=fE ha;omega
  exact fE (h5 j a G[j] ha (getElem?_eq_getElem hj))
 refine⟨_,_,.ptr (S.length+1+E0.length) G.length,AV.sl .full 1 [],.ss (S.length+1+(E0.length+1)) 0 1 1,S++(Mp :: ((E0++[dA S.length I G++[AV.sl .full 1 []]])++[icl [i]])),((E0++[dA S.length I G++[AV.sl .full 1 []]])++[icl [i]]).set E0.length (dA S.length (I++[E0.length+1]) (G++[[i]])),happ,fun _=>rfl,rfl,?_,?_,?_,rfl,?_,?_⟩
 ·rw[kM,if_pos (by omega),Int.toNat_natCast];simp
 ·intro m
  rw[lV,sg,getElem?_append_right (Nat.le_refl _),Nat.sub_self];simp only[getElem?_cons_zero,Option.bind_some,ldC,Bool.false_eq_true,if_false];rw[getElem?_append_right (by omega),hcl,Nat.sub_self];rfl
 ·rw[jT 1 8 1 (by decide),if_pos a8,sc,sl_,length_append,length_singleton]
  rfl
 ·intro l m
  have e2:((E0++[dA S.length I G++[AV.sl .full 1 []]])++[icl [i]])[E0.length]?=some (dA S.length I G++[.sl .full 1 []]):=by
   rw[getElem?_append_left (by simp),getElem?_append_right (Nat.le_refl _),Nat.sub_self];rfl
  rw[oJ,sg,e2];simp only[Option.bind_some]
  rw[if_pos (tZ fun x hx=>by
   rcases mem_append.1 hx with q | q
   ·exact .inl (nJ x q)
   ·simp only[mem_singleton] at q;exact .inr (.inr q)),uS (by rw[length_append,hcl];simp),set_append_right _ _ (by omega),hcl,Nat.sub_self,Option.map_some,ss_,B5 h1]
  try rfl
 ·refine .inr ⟨E0.length,I++[E0.length+1],by simp,by simp [h1],?_,?_,?_,?_,?_⟩
  ·rw[getElem?_set,if_pos rfl,if_pos (by simp)]
  ·intro j a ha
   by_cases q:j < I.length
   ·rw[getElem?_append_left q] at ha
    have:=hI j a ha
    omega
   ·rw[getElem?_append_right (by omega)] at ha
    have hz:j - I.length=0:=by have:=fE ha;simp at this;omega
    rw[hz] at ha;cases ha;omega
  ·intro j j' a ha ha'
   by_cases q:j < I.length
   ·rw[getElem?_append_left q] at ha
    have hal:=hI j a ha;by_cases q':j' < I.length
    ·rw[getElem?_append_left q'] at ha'
     exact h4 j j' a ha ha'
    ·rw[getElem?_append_right (by omega)] at ha'
     have hz:j' - I.length=0:=by have:=fE ha';simp at this;omega
     rw[hz] at ha';cases ha';omega
   ·rw[getElem?_append_right (by omega)] at ha
    have hz:j - I.length=0:=by have:=fE ha;simp at this;omega
    rw[hz] at ha;cases ha;by_cases q':j' < I.length
    ·rw[getElem?_append_left q'] at ha'
     have hal:=hI j' _ ha';omega
    ·have:=fE ha'
     simp at this;omega
  ·intro j a g ha hg
   by_cases q:j < I.length
   ·rw[getElem?_append_left q] at ha
    rw[getElem?_append_left (by omega)] at hg;have hal:=hI j a ha;rw[getElem?_set,if_neg (by omega),getElem?_append_left (by simp;omega),getElem?_append_left hal];exact h5 j a g ha hg
   ·rw[getElem?_append_right (by omega)] at ha
    have hz:j - I.length=0:=by have:=fE ha;simp at this;omega
    rw[hz] at ha;cases ha;rw[getElem?_append_right (by omega),show j - G.length=0 by omega] at hg;cases hg;rw[getElem?_set,if_neg (by omega),getElem?_append_right (by simp)];simp
  ·have en:S.length+1+(((E0++[dA S.length I G++[AV.sl .full 1 []]])++[icl [i]]).set E0.length (dA S.length (I++[E0.length+1]) (G++[[i]]))).length=S.length+1+(E0.length+2):=by simp
   rw[en];have m6:REF (S.length+1+(E0.length+2)) E0:=h6.mono (by omega);refine (((m6.app ?_).app (yV _ _)).set E0.length (mY (m:=E0.length+2) ?_ (Nat.le_refl _)))
   ·intro x hx
    rcases mem_append.1 hx with q | q
    ·exact yW (n:=S.length+1+E0.length) (by omega) (mY (m:=E0.length) hI (Nat.le_refl _) x q)
    ·simp only[mem_singleton] at q;subst q;rfl
   ·intro j a ha
    by_cases q:j < I.length
    ·rw[getElem?_append_left q] at ha
     have:=hI j a ha
     omega
    ·rw[getElem?_append_right (by omega)] at ha
     have hz:j - I.length=0:=by have:=fE ha;simp at this;omega
     rw[hz] at ha;cases ha;omega
end Go.Av
namespace Go.Av
open Go.Nt
def vH:Im->List (List Int)->Nat->List Int->List (List Int)
 | _,G,_,[]=>G
 | m,G,i,f :: r=>match mgI m f with
  | some a=>vH m (G.set a.toNat (G.getD a.toNat []++[(i:Int)])) (i+1) r
  | none=>vH (msI m f G.length) (G++[[(i:Int)]]) (i+1) r
theorem WP:fD 1 [.sl .full 1 []] 1 [0] [.sl .full 1 []]=some (.sl .full 1 [[.sl .full 1 []]]):=rfl
theorem RT (i:Int):fD 1 [.int .i64 0] 1 [0] [.int .i64 i]=some (.sl .full 1 [[.int .i64 i]]):=rfl
theorem l28 (S:LL) (F:List Int) (hF:F.length<=100000):∀ (k i:Nat) (v:AV) (E:LL) (G:List (List Int)) (m:Im),i+k=F.length->GS S.length v E G->(∀ f a,mgI m f=some a->0<=a/\a < (G.length:Int))->G.length<=i->(∀ g∈G,g.length<=i) ->
  ∃ v' E' m',GS S.length v' E' (vH m G i (F.drop i))/\aD G0 wH (ST [(3,v),(4,.mp S.length),(11,.sl .no 1 (aZ F)),(12,.int .i64 F.length),(13,.int .i64 i)] [] (S++([.mapv (imr m)] :: E)))=some (.ex 0,ST [(3,v'),(4,.mp S.length),(11,.sl .no 1 (aZ F)),(12,.int .i64 F.length),(13,.int .i64 F.length),(14,.bool false)] [] (S++([.mapv (imr m')] :: E')))
 | 0,i,v,E,G,m,h,hG,_,_,_=>by
  have:i=F.length:=by omega
  subst this;refine⟨v,E,m,by rw[drop_length];exact hG,?_⟩;have hs:=hG.scrub;rw[aA (L:=wH) rfl];simp only[go_sem,hs,Int.lt_irrefl]
 | k+1,i,v,E,G,m,h,hG,hm,hGi,hgi=>by
  have hi:i < F.length:=by omega
  have h4:(i:Int) < (F.length:Int):=by omega
  have h0:(0:Int)<=(i:Int):=by omega
  have hw:=wI (i:=i) (by omega)
  have hg:F[i]?=some F[i]:=getElem?_eq_getElem hi;have hd:F.drop i=F[i] :: F.drop (i+1):=drop_eq_getElem_cons hi;generalize F[i]=f at hg hd;have hr:=fA hg;have hlk:=xA f m;have hs:=hG.scrub;have hdv:=hG.dem;have hlen:=hG.len;rw[hd];simp only[vH];cases hk:mgI m f with
  | some a =>
   rw[hk] at hlk;simp only[Option.map_some] at hlk;obtain⟨ha0,hal⟩:=hm f a hk;obtain⟨an,rfl⟩:=Int.eq_ofNat_of_zero_le ha0;have hal':an < G.length:=by omega
   have hga:G[an]?=some G[an]:=getElem?_eq_getElem hal';have hgl:=hgi _ (getElem_mem hal');have hgd:G.getD an []=G[an]:=by rw[getD_eq_getElem?_getD,hga];rfl
   simp only[Int.toNat_natCast,hgd];generalize G[an]=g at hga hgl;obtain⟨P,W,W',sh2,E3,q1,q2,q3,q4,q5,q6⟩:=hG.more (Mp:=[.mapv (imr m)]) hga (i:Int) (by omega)
   obtain⟨v',E',m',ih1,ih2⟩:=l28 S F hF k (i+1) v E3 (G.set an (g++[(i:Int)])) m (by omega) q6 (fun f a hfa=>by rw[length_set];exact hm f a hfa) (by rw[length_set];omega) (fun g' hg'=>by
    rcases mem_or_eq_of_mem_set hg' with q | q
    ·have:=hgi _ q;omega
    ·rw[q,length_append,length_singleton];omega)
   refine⟨v',E',m',ih1,?_⟩;rw[aA (L:=wH) rfl];simp only[go_sem,hs,hdv,h4,h0,hr,hw,ED,hlk,EI,q1,q2,RT,q3,q4,q5];exact ih2
  | none =>
   rw[hk] at hlk;simp only[Option.map_none] at hlk;have hmu:=w9 f (G.length:Int) m;obtain⟨v1,sh1,P,W,W',sh2,E3,q0,qs,qd,q1,q2,q3,q4,q5,q6⟩:=hG.new (Mp:=[.mapv (imr (msI m f G.length))]) (i:Int) (by omega)
   obtain⟨v',E',m',ih1,ih2⟩:=l28 S F hF k (i+1) v1 E3 (G++[[(i:Int)]]) (msI m f G.length) (by omega) q6 (fun f' a hfa=>by
    rw[EA] at hfa;rw[length_append,length_singleton]
    split at hfa
    ·cases hfa;omega
    ·have:=hm _ _ hfa;omega) (by rw[length_append,length_singleton];omega) (fun g' hg'=>by
    rcases mem_append.1 hg' with q | q
    ·have:=hgi _ q;omega
    ·simp only[mem_singleton] at q;rw[q,length_singleton];omega)
   refine⟨v',E',m',ih1,?_⟩;rw[aA (L:=wH) rfl];simp only[go_sem,hs,hdv,hlen,h4,h0,hr,hw,ED,hlk,EJ,hmu,sqQ,WP,q0,qs,qd,q1,q2,RT,q3,q4,q5];exact ih2
theorem GS.frz {q:Nat} {v:AV} {E:LL} {G:List (List Int)} (h:GS q v E G) (a b:LL):gE true a b v=some v:=by
 rcases h with ⟨_,rfl,_⟩ | ⟨o,I,rfl,_⟩<;>rfl
theorem GS.out {q:Nat} {v:AV} {E:LL} {G:List (List Int)} (h:GS q v E G):jV true v=true:=by
 rcases h with ⟨_,rfl,_⟩ | ⟨o,I,rfl,_⟩<;>rfl
theorem xK (L:List (List Tk)):(fJ L).length=L.length:=by rw[vQ];unfold gU;simp
theorem c28 {V:AV} {sh:LL} {L:List (List Tk)} (hV:LV V sh L) (hR:jX sh) (hL:L.length<=100000) (hb:∀ f∈L,pB f):∃ v m E,GS sh.length v E (vH [] [] 0 (fJ L))/\G0 12 [V] sh=some (v,sh++([.mapv (imr m)] :: E)):=by
 have e0:imr []=[]:=rfl;obtain⟨v',E',m',x1,x2⟩:=l28 sh (fJ L) (by rw[xK];exact hL) (fJ L).length 0 (.sl .full 1 []) [] [] [] (by omega) (.inl ⟨rfl,rfl,rfl⟩) (fun f a h=>by cases h) (Nat.le_refl _) (fun g h=>by cases h);have ec:((0:Nat):Int)=0:=rfl;rw[drop_zero] at x1;rw[ec,e0] at x2;have hs:=hV.scrub;have hdv:=hV.dem;have hs1:=x1.scrub;have hd1:=x1.dem;have h25:=c25 (hV.ext [[.mapv []]]) (hR.ext []) hL hb;have harg:=hV.arg;have hfz:=x1.frz sh (sh++([.mapv (imr m')] :: E'));have hout:=x1.out;refine⟨v',m',E',x1,?_⟩;refine aB F12 rfl rfl rfl ?_;simp only[F12,go_sem,hs,hdv,h25,aW,x2,hs1,hd1,harg,hfz,hout]
end Go.Av
namespace Go.Av
open Go.Nt
theorem K6 (L:List (List Tk)) (s:Bs):∀ (i v:Nat),ff L s i=some v->v < i/\cnd L s v=true
 | 0,v,h=>by cases h
 | i+1,v,h=>by
  simp only[ff] at h;cases hf:ff L s i with
  | some w =>
   rw[hf] at h;cases h
   have:=K6 L s i _ hf
   exact⟨by omega,this.2⟩
  | none =>
   rw[hf] at h;simp only[] at h
   split at h
   ·cases h;rename_i q;exact⟨by omega,q⟩
   ·cases h
theorem SK {L:List (List Tk)} {i:Nat} {f:List Tk} (h:L[i]?=some f) (hv:vld f=0):gF L i=match ff L (fM f) i with
  | some v=>(v:Int)
  | none=>(i:Int):=by
 unfold gF;rw[h];simp only[];rw[if_pos hv,E9]
 cases ff L (fM f) i<;>rfl
end Go.Av
namespace Go.Av
open Go.Nt
theorem GS.arg {q:Nat} {v:AV} {E:LL} {G:List (List Int)} (h:GS q v E G):d8 true v=true:=by
 rcases h with ⟨_,rfl,_⟩ | ⟨o,I,rfl,_⟩<;>rfl
end Go.Av
namespace Go.Av
open Go.Nt
theorem J9 {sh:LL} (h:REF sh.length sh):jX sh:=by
 unfold jX;rw[all_eq_true];intro c hc;rw[all_eq_true];exact h c hc
theorem H8 (n:Nat) (L:List (List Tk)):∀ x∈frc L,cR n x=true:=fun x hx=>by
 obtain⟨f,_,rfl⟩:=mem_map.1 hx;rfl
theorem OSt.ref {v:AV} {R:LL} {L:List (List Tk)} (h:OSt v R L) (n:Nat) (l:List Int) (p:Nat):REF n (num l p :: R):=by
 intro c hc x hx;rcases mem_cons.1 hc with rfl | q
 ·have:(num l p).all (cR n)=true:=rfl
  rw[all_eq_true] at this;exact this x hx
 ·rcases h with ⟨_,_,rfl⟩ | ⟨_,d,_,rfl⟩
  ·cases q
  ·rcases mem_append.1 q with q | q
   ·rw[(mem_replicate.1 q).2] at hx;exact pI n x hx
   ·rw[mem_singleton] at q;subst q;exact H8 n L x hx
theorem OSt.lv {v:AV} {R:LL} {L:List (List Tk)} (h:OSt v R L) (l:List Int) (p:Nat):LV v (num l p :: R) L:=by
 rcases h with ⟨rfl,rfl,rfl⟩ | ⟨_,d,rfl,rfl⟩
 ·exact wA [] _
 ·exact TZ (wX d (num l p) (frc L))
end Go.Av
namespace Go.Av
open Go.Nt
theorem f52 (x:Int):G0 52 [.int .u8 x] []=some (.int .i64 (cA x),[]):=N6 x
theorem f70 (x:Int):G0 70 [.int .u8 x] []=some (.int .i64 (cA x),[]):=X5 x
def wdI (x:Int):Bool:=decide (cA x=4) || decide (cA x=3)
def dgI (x:Int):Bool:=decide (cA x=3)
theorem XL (x:Int):G0 54 [.int .u8 x] []=some (.bool (wdI x),[]):=by
 refine aB F54 rfl rfl rfl ?_;by_cases h1:cA x=4
 ·simp only[F54,go_sem,f52,h1,wdI,Bool.true_or,Bool.or_true]
 ·simp only[F54,go_sem,f52,h1,wdI,Bool.false_or]
theorem XK (x:Int):G0 55 [.int .u8 x] []=some (.bool (dgI x),[]):=by
 refine aB F55 rfl rfl rfl ?_;simp only[F55,go_sem,f52,dgI]
def bt (s:List UInt8) (n:Nat):Int:=((s.getD n 0).toNat:Int)
theorem hH {s:List UInt8} {n:Nat} (h:n < s.length):s[n]?=some (s.getD n 0):=by
 simp [getD_eq_getElem?_getD,h]
def jn (inn:Int->Bool) (a b:Int) (s:List UInt8):Nat->Nat->Nat
 | 0,n=>n
 | k+1,n=>if n < s.length then (if inn (bt s n)=true then jn inn a b s k (n+1) else if (bt s n=a\/bt s n=b)/\n+1 < s.length/\inn (bt s (n+1))=true then jn inn a b s k (n+2) else n) else n
theorem btd (s:List UInt8) (n:Nat):(((s.getD n 0).toNat:Nat):Int)=bt s n:=rfl
theorem NV (g:Nat) (inn:Int->Bool) (hg:∀ x,G0 g [.int .u8 x] []=some (.bool (inn x),[])) (a b:UInt8) (s:List UInt8) (hs:s.length<=1000000):∀ (k n:Nat),s.length<=n+k->n<=s.length ->
  (s.length<=jn inn a.toNat b.toNat s k n->aD G0 mP (ST [(0,.str s),(1,.str [a,b]),(2,.fn g []),(7,.int .i64 n)] [] [])=some (.ex 0,ST [(0,.str s),(1,.str [a,b]),(2,.fn g []),(7,.int .i64 (jn inn a.toNat b.toNat s k n)),(11,.bool false)] [] [])) /\
  (jn inn a.toNat b.toNat s k n < s.length->aD G0 mP (ST [(0,.str s),(1,.str [a,b]),(2,.fn g []),(7,.int .i64 n)] [] [])=some (.ret,ST [(0,.str s),(1,.str [a,b]),(2,.fn g []),(6,.int .i64 (jn inn a.toNat b.toNat s k n)),(11,.bool true),(13,.bool false),(21,.bool false)] [] []))
 | 0,n,h1,h2=>by
  have h3:¬ (n:Int) < (s.length:Int):=by omega
  refine⟨fun _=>?_,fun h=>absurd h (by simp only[jn];omega)⟩;rw[aA (L:=mP) rfl];simp only[go_sem,h3,jn]
 | k+1,n,h1,h2=>by
  by_cases h3:n < s.length
  ·have h4:(n:Int) < (s.length:Int):=by omega
   have h5:=hH h3;have h0:(0:Int)<=(n:Int):=by omega
   by_cases h6:inn (bt s n)=true
   ·have ih:=NV g inn hg a b s hs k (n+1) (by omega) (by omega)
    have e:jn inn a.toNat b.toNat s (k+1) n=jn inn a.toNat b.toNat s k (n+1):=by simp only[jn,h3,h6,if_true]
    have hw:IntKind.i64.wrap ((n:Int)+1)=((n+1:Nat):Int):=by rw[w64 (by omega) (by omega)];rfl
    rw[e]
    constructor<;>intro h7
    ·rw[aA (L:=mP) rfl]
     simp only[go_sem,h4,h5,h0,btd,hg,h6,hw];rw[ih.1 h7]
    ·rw[aA (L:=mP) rfl]
     simp only[go_sem,h4,h5,h0,btd,hg,h6,hw];rw[ih.2 h7]
   ·have h6':inn (bt s n)=false:=by simpa using h6
    have hw:IntKind.i64.wrap ((n:Int)+1)=((n+1:Nat):Int):=by rw[w64 (by omega) (by omega)];rfl
    have hw2:IntKind.i64.wrap ((n:Int)+2)=((n+2:Nat):Int):=by rw[w64 (by omega) (by omega)];rfl
    have h9:(0:Int)<=((n+1:Nat):Int):=by omega
    have ab0:∀ x y:UInt8,([x,y]:List UInt8)[(0:Nat)]?=some x:=fun _ _=>rfl
    have ab1:∀ x y:UInt8,([x,y]:List UInt8)[(1:Nat)]?=some y:=fun _ _=>rfl
    by_cases h8:n+1 < s.length
    ·have h8':((n+1:Nat):Int) < (s.length:Int):=by omega
     have h10:=hH h8;have ih:=NV g inn hg a b s hs k (n+2) (by omega) (by omega);have e:jn inn a.toNat b.toNat s (k+1) n=if (bt s n=a.toNat\/bt s n=b.toNat)/\inn (bt s (n+1))=true then jn inn a.toNat b.toNat s k (n+2) else n:=by
      simp only[jn,h3,h6',h8,if_true,Bool.false_eq_true,if_false,true_and]
     rw[e];by_cases h11:inn (bt s (n+1))=true<;>by_cases h12:bt s n=(a.toNat:Int)<;>by_cases h13:bt s n=(b.toNat:Int)
     all_goals try replace h11:inn (bt s (n+1))=false:=eq_false_of_ne_true h11
     all_goals first | replace h12:=eq_false h12 | replace h12:=eq_true h12
     all_goals first | replace h13:=eq_false h13 | replace h13:=eq_true h13
     all_goals try simp only[h11,h12,h13,or_true,true_or,or_self,and_self,and_true,and_false,if_true,if_false,Bool.false_eq_true,eq_self]
     all_goals
      constructor<;>intro h7
      all_goals try exact absurd h7 (by omega)
      all_goals
       rw[aA (L:=mP) rfl];simp only[go_sem,h4,h5,h0,btd,hg,h6',hw,hw2,ab0,ab1,h12,h13,h8',h9,h10,h11,Int.reduceLE,Int.le_refl]
       try first | rw[ih.1 h7] | rw[ih.2 h7]
    ·have h8':¬ ((n+1:Nat):Int) < (s.length:Int):=by omega
     have e:jn inn a.toNat b.toNat s (k+1) n=n:=by
      simp only[jn,h3,h6',h8,if_true,Bool.false_eq_true,if_false,false_and,and_false]
     rw[e];by_cases h12:bt s n=(a.toNat:Int)<;>by_cases h13:bt s n=(b.toNat:Int)
     all_goals first | replace h12:=eq_false h12 | replace h12:=eq_true h12
     all_goals first | replace h13:=eq_false h13 | replace h13:=eq_true h13
     all_goals
      refine⟨fun h=>absurd h (by omega),fun _=>?_⟩;rw[aA (L:=mP) rfl];simp only[go_sem,h4,h5,h0,btd,hg,h6',hw,hw2,ab0,ab1,h12,h13,h8',Int.reduceLE,Int.le_refl]
  ·have h4:¬ (n:Int) < (s.length:Int):=by omega
   have e:jn inn a.toNat b.toNat s (k+1) n=n:=by simp only[jn,h3,if_false]
   rw[e];refine⟨fun _=>?_,fun h=>absurd h h3⟩;rw[aA (L:=mP) rfl];simp only[go_sem,h4]
theorem zN (inn:Int->Bool) (a b:Int) (s:List UInt8):∀ k n:Nat,n<=s.length->n<=jn inn a b s k n/\jn inn a b s k n<=s.length
 | 0,n,h=>⟨Nat.le_refl _,h⟩
 | k+1,n,h=>by
  simp only[jn];split
  ·split
   ·have:=zN inn a b s k (n+1) (by omega);omega
   ·split
    ·have:=zN inn a b s k (n+2) (by omega);omega
    ·omega
  ·omega
theorem S7 (g:Nat) (inn:Int->Bool) (hg:∀ x,G0 g [.int .u8 x] []=some (.bool (inn x),[])) (a b:UInt8) (s:List UInt8) (hs:s.length<=1000000) (h1:1<=s.length) :
  G0 53 [.str s,.str [a,b],.fn g []] []=some (.int .i64 (jn inn a.toNat b.toNat s s.length 1),[]):=by
 refine aB F53 rfl rfl rfl ?_;have hx:=NV g inn hg a b s hs s.length 1 (by omega) h1;by_cases h2:s.length<=jn inn a.toNat b.toNat s s.length 1
 ·have h3:=hx.1 h2
  simp only[go_sem] at h3;simp only[F53,go_sem,h3]
 ·have h3:=hx.2 (by omega)
  simp only[go_sem] at h3;simp only[F53,go_sem,h3]
def bl (s:List UInt8):Nat->Nat->Nat
 | 0,n=>n
 | k+1,n=>if n < s.length/\cA (bt s n)=2 then bl s k (n+1) else n
theorem LG (s:List UInt8):∀ k n:Nat,n<=s.length->n<=bl s k n/\bl s k n<=s.length
 | 0,n,h=>⟨Nat.le_refl _,h⟩
 | k+1,n,h=>by
  simp only[bl];split
  ·have:=LG s k (n+1) (by omega);omega
  ·omega
theorem SU (s:List UInt8) (hs:s.length<=1000000):∀ k n:Nat,s.length<=n+k->n<=s.length ->
  aD G0 sL (ST [(0,.str s),(3,.int .i64 n)] [] [])=some (.ex 0,ST [(0,.str s),(3,.int .i64 (bl s k n)),(14,.bool false)] [] [])
 | 0,n,h1,h2=>by
  have h3:¬ (n:Int) < (s.length:Int):=by omega
  rw[aA (L:=sL) rfl];simp only[go_sem,h3,bl]
 | k+1,n,h1,h2=>by
  by_cases h3:n < s.length
  ·have h4:(n:Int) < (s.length:Int):=by omega
   have h0:(0:Int)<=(n:Int):=by omega
   have h5:=hH h3;have hw:IntKind.i64.wrap ((n:Int)+1)=((n+1:Nat):Int):=by rw[w64 (by omega) (by omega)];rfl
   by_cases h6:cA (bt s n)=2
   ·have ih:=SU s hs k (n+1) (by omega) (by omega)
    rw[aA (L:=sL) rfl];simp only[go_sem,h4,h5,h0,btd,f70,h6,hw,ih,bl,h3]
   ·rw[aA (L:=sL) rfl]
    simp only[go_sem,h4,h5,h0,btd,f70,h6,hw,bl,h3]
  ·have h4:¬ (n:Int) < (s.length:Int):=by omega
   rw[aA (L:=sL) rfl];simp only[go_sem,h4,bl,h3]
theorem S9 (s:List UInt8) (hs:s.length<=1000000):G0 46 [.str s] []=some (.int .i64 (bl s s.length 0),[]):=by
 refine aB F46 rfl rfl rfl ?_;have hx:=SU s hs s.length 0 (by omega) (by omega);simp only[go_sem] at hx;simp only[F46,go_sem,hx]
theorem SW (s:List UInt8) (hs:s.length<=1000000):∀ k n:Nat,s.length<=n+k->n<=s.length ->
  aD G0 sM (ST [(0,.str s),(4,.int .i64 n),(8,.bool false),(12,.bool false),(16,.bool true)] [] [])=some (.ex 1,ST [(0,.str s),(4,.int .i64 (bl s k n)),(8,.bool false),(12,.bool false),(16,.bool true),(28,.bool false)] [] [])
 | 0,n,h1,h2=>by
  have h3:¬ (n:Int) < (s.length:Int):=by omega
  rw[aA (L:=sM) rfl];simp only[go_sem,h3,bl]
 | k+1,n,h1,h2=>by
  by_cases h3:n < s.length
  ·have h4:(n:Int) < (s.length:Int):=by omega
   have h0:(0:Int)<=(n:Int):=by omega
   have h5:=hH h3;have hw:IntKind.i64.wrap ((n:Int)+1)=((n+1:Nat):Int):=by rw[w64 (by omega) (by omega)];rfl
   by_cases h6:cA (bt s n)=2
   ·have ih:=SW s hs k (n+1) (by omega) (by omega)
    rw[aA (L:=sM) rfl];simp only[go_sem,h4,h5,h0,btd,f52,h6,hw,ih,bl,h3]
   ·rw[aA (L:=sM) rfl]
    simp only[go_sem,h4,h5,h0,btd,f52,h6,hw,bl,h3]
  ·have h4:¬ (n:Int) < (s.length:Int):=by omega
   rw[aA (L:=sM) rfl];simp only[go_sem,h4,bl,h3]
def nxK (s:List UInt8):Int:=if cA (bt s 0)=4 then 6 else if cA (bt s 0)=3 then 7 else if cA (bt s 0)=2 then 8 else 9
def nxN (s:List UInt8):Nat:=if cA (bt s 0)=4 then jn wdI 39 45 s s.length 1 else if cA (bt s 0)=3 then jn dgI 46 44 s s.length 1 else if cA (bt s 0)=2 then bl s s.length 1 else 1
theorem DY (s:List UInt8) (h:1<=s.length):1<=nxN s/\nxN s<=s.length:=by
 unfold nxN;split
 ·have:=zN wdI 39 45 s s.length 1 h;omega
 ·split
  ·have:=zN dgI 46 44 s s.length 1 h;omega
  ·split
   ·have:=LG s s.length 1 h;omega
   ·omega
theorem XP (s:List UInt8) (hs:s.length<=1000000) (h1:1<=s.length):G0 36 [.str s] []=some (.tup [.int .i64 (nxK s),.int .i64 (nxN s)],[]):=by
 refine aB F36 rfl rfl rfl ?_;have h5:=hH (s:=s) (n:=0) (by omega);by_cases a1:cA (bt s 0)=4
 ·have hx:=S7 54 wdI XL 39 45 s hs h1
  simp only[F36,go_sem,Int.le_refl,h5,btd,f52,a1,hx,nxK,nxN];rfl
 by_cases a2:cA (bt s 0)=3
 ·have hx:=S7 55 dgI XK 46 44 s hs h1
  simp only[F36,go_sem,Int.le_refl,h5,btd,f52,a1,a2,hx,nxK,nxN];rfl
 by_cases a3:cA (bt s 0)=2
 ·have hx:=SW s hs s.length 1 (by omega) h1
  simp only[go_sem] at hx;simp only[F36,go_sem,Int.le_refl,h5,btd,f52,a1,a2,a3,hx,nxK,nxN]
 ·simp only[F36,go_sem,Int.le_refl,h5,btd,f52,a1,a2,a3,nxK,nxN]
end Go.Av
namespace Go.Av
open Go.Nt
theorem NX (s:List UInt8) (hs:s.length<=1000000):∀ (k n:Nat),s.length<=n+k->n<=s.length ->
  ∃ l',aD G0 jL (ST [(0,.str s),(3,.int .i64 n),(13,.bool false)] [] [])=some (.ex 0,ST l' [] [])/\aE .any l' 3=.int .i64 (jn wdI 39 45 s k n)
 | 0,n,h1,h2=>by
  have h3:¬ (n:Int) < (s.length:Int):=by omega
  refine Exists.intro ?_ (And.intro ?_ ?_)
  rotate_left 1
  ·rw[aA (L:=jL) rfl]
   simp only[go_sem,h3,jn];rfl
  ·rfl
 | k+1,n,h1,h2=>by
  by_cases h3:n < s.length
  ·have h4:(n:Int) < (s.length:Int):=by omega
   have h5:=hH h3;have h0:(0:Int)<=(n:Int):=by omega
   have hw:IntKind.i64.wrap ((n:Int)+1)=((n+1:Nat):Int):=by rw[w64 (by omega) (by omega)];rfl
   have hw2:IntKind.i64.wrap ((n:Int)+2)=((n+2:Nat):Int):=by rw[w64 (by omega) (by omega)];rfl
   by_cases h6:wdI (bt s n)=true
   ·obtain⟨l',ih,ih2⟩:=NX s hs k (n+1) (by omega) (by omega)
    have e:jn wdI 39 45 s (k+1) n=jn wdI 39 45 s k (n+1):=by simp only[jn,h3,h6,if_true]
    rw[e];refine⟨l',?_,ih2⟩;rw[aA (L:=jL) rfl];by_cases dc4:cA (bt s n)=4
    ·simp only[go_sem,h4,h5,h0,btd,f70,dc4,hw]
     exact ih
    ·have dc3:cA (bt s n)=3:=by simpa [wdI,dc4] using h6
     simp only[go_sem,h4,h5,h0,btd,f70,dc4,dc3,hw];exact ih
   ·have dc4:¬ cA (bt s n)=4:=by intro h;simp [wdI,h] at h6
    have dc3:¬ cA (bt s n)=3:=by intro h;simp [wdI,h] at h6
    have h6':wdI (bt s n)=false:=by simpa using h6
    have h9:(0:Int)<=((n+1:Nat):Int):=by omega
    by_cases h12:bt s n=39\/bt s n=45
    ·by_cases h8:n+1 < s.length
     ·have h8':((n+1:Nat):Int) < (s.length:Int):=by omega
      have h10:=hH h8;by_cases h11:wdI (bt s (n+1))=true
      ·obtain⟨l',ih,ih2⟩:=NX s hs k (n+2) (by omega) (by omega)
       have e:jn wdI 39 45 s (k+1) n=jn wdI 39 45 s k (n+2):=by
        simp only[jn];rw[if_pos h3,if_neg h6,if_pos ⟨h12,h8,h11⟩]
       rw[e];refine⟨l',?_,ih2⟩;rw[aA (L:=jL) rfl];have d:(bt s n=39)=True\/((bt s n=39)=False/\(bt s n=45)=True):=by
        by_cases hq:bt s n=39
        ·exact .inl (eq_true hq)
        ·exact .inr ⟨eq_false hq,eq_true (h12.resolve_left hq)⟩
       by_cases d4:cA (bt s (n+1))=4
       ·rcases d with d | ⟨d,d'⟩
        ·simp only[go_sem,h4,h5,h0,btd,f70,dc4,dc3,hw,hw2,d,h8',h9,h10,d4]
         exact ih
        ·simp only[go_sem,h4,h5,h0,btd,f70,dc4,dc3,hw,hw2,d,d',h8',h9,h10,d4]
         exact ih
       ·have d3:cA (bt s (n+1))=3:=by simpa [wdI,d4] using h11
        rcases d with d | ⟨d,d'⟩
        ·simp only[go_sem,h4,h5,h0,btd,f70,dc4,dc3,hw,hw2,d,h8',h9,h10,d4,d3]
         exact ih
        ·simp only[go_sem,h4,h5,h0,btd,f70,dc4,dc3,hw,hw2,d,d',h8',h9,h10,d4,d3]
         exact ih
      ·have e:jn wdI 39 45 s (k+1) n=n:=by
        simp only[jn];rw[if_pos h3,if_neg h6,if_neg (fun h=>h11 h.2.2)]
       have d4:¬ cA (bt s (n+1))=4:=by intro h;simp [wdI,h] at h11
       have d3:¬ cA (bt s (n+1))=3:=by intro h;simp [wdI,h] at h11
       rw[e];have d:(bt s n=39)=True\/((bt s n=39)=False/\(bt s n=45)=True):=by
        by_cases hq:bt s n=39
        ·exact .inl (eq_true hq)
        ·exact .inr ⟨eq_false hq,eq_true (h12.resolve_left hq)⟩
       rcases d with d | ⟨d,d'⟩
       ·refine Exists.intro ?_ (And.intro ?_ ?_)
        rotate_left 1
        ·rw[aA (L:=jL) rfl]
         simp only[go_sem,h4,h5,h0,btd,f70,dc4,dc3,hw,hw2,d,h8',h9,h10,d4,d3];rfl
        ·rfl
       ·refine Exists.intro ?_ (And.intro ?_ ?_)
        rotate_left 1
        ·rw[aA (L:=jL) rfl]
         simp only[go_sem,h4,h5,h0,btd,f70,dc4,dc3,hw,hw2,d,d',h8',h9,h10,d4,d3];rfl
        ·rfl
     ·have h8':¬ ((n+1:Nat):Int) < (s.length:Int):=by omega
      have e:jn wdI 39 45 s (k+1) n=n:=by
       simp only[jn];rw[if_pos h3,if_neg h6,if_neg (fun h=>h8 h.2.1)]
      rw[e];have d:(bt s n=39)=True\/((bt s n=39)=False/\(bt s n=45)=True):=by
       by_cases hq:bt s n=39
       ·exact .inl (eq_true hq)
       ·exact .inr ⟨eq_false hq,eq_true (h12.resolve_left hq)⟩
      rcases d with d | ⟨d,d'⟩
      ·refine Exists.intro ?_ (And.intro ?_ ?_)
       rotate_left 1
       ·rw[aA (L:=jL) rfl]
        simp only[go_sem,h4,h5,h0,btd,f70,dc4,dc3,hw,hw2,d,h8',h9];rfl
       ·rfl
      ·refine Exists.intro ?_ (And.intro ?_ ?_)
       rotate_left 1
       ·rw[aA (L:=jL) rfl]
        simp only[go_sem,h4,h5,h0,btd,f70,dc4,dc3,hw,hw2,d,d',h8',h9];rfl
       ·rfl
    ·have e:jn wdI 39 45 s (k+1) n=n:=by
      simp only[jn];rw[if_pos h3,if_neg h6,if_neg (fun h=>h12 h.1)]
     rw[e];have d:(bt s n=39)=False:=eq_false (fun h=>h12 (.inl h));have d':(bt s n=45)=False:=eq_false (fun h=>h12 (.inr h));refine Exists.intro ?_ (And.intro ?_ ?_)
     rotate_left 1
     ·rw[aA (L:=jL) rfl]
      simp only[go_sem,h4,h5,h0,btd,f70,dc4,dc3,hw,hw2,d,d',h9];rfl
     ·rfl
  ·have h4:¬ (n:Int) < (s.length:Int):=by omega
   have e:jn wdI 39 45 s (k+1) n=n:=by simp only[jn,h3,if_false]
   rw[e];refine Exists.intro ?_ (And.intro ?_ ?_)
   rotate_left 1
   ·rw[aA (L:=jL) rfl]
    simp only[go_sem,h4];rfl
   ·rfl
theorem NW (s:List UInt8) (hs:s.length<=1000000):∀ (k n:Nat),s.length<=n+k->n<=s.length ->
  ∃ l',aD G0 jK (ST [(0,.str s),(3,.int .i64 n),(11,.bool false)] [] [])=some (.ex 0,ST l' [] [])/\aE .any l' 3=.int .i64 (jn dgI 46 44 s k n)
 | 0,n,h1,h2=>by
  have h3:¬ (n:Int) < (s.length:Int):=by omega
  refine Exists.intro ?_ (And.intro ?_ ?_)
  rotate_left 1
  ·rw[aA (L:=jK) rfl]
   simp only[go_sem,h3,jn];rfl
  ·rfl
 | k+1,n,h1,h2=>by
  by_cases h3:n < s.length
  ·have h4:(n:Int) < (s.length:Int):=by omega
   have h5:=hH h3;have h0:(0:Int)<=(n:Int):=by omega
   have hw:IntKind.i64.wrap ((n:Int)+1)=((n+1:Nat):Int):=by rw[w64 (by omega) (by omega)];rfl
   have hw2:IntKind.i64.wrap ((n:Int)+2)=((n+2:Nat):Int):=by rw[w64 (by omega) (by omega)];rfl
   by_cases h6:dgI (bt s n)=true
   ·obtain⟨l',ih,ih2⟩:=NW s hs k (n+1) (by omega) (by omega)
    have e:jn dgI 46 44 s (k+1) n=jn dgI 46 44 s k (n+1):=by simp only[jn,h3,h6,if_true]
    rw[e];refine⟨l',?_,ih2⟩;rw[aA (L:=jK) rfl];have dc3:cA (bt s n)=3:=by simpa [dgI] using h6
    simp only[go_sem,h4,h5,h0,btd,f70,dc3,hw];exact ih
   ·have dc3:¬ cA (bt s n)=3:=by intro h;simp [dgI,h] at h6
    have h9:(0:Int)<=((n+1:Nat):Int):=by omega
    by_cases h12:bt s n=46\/bt s n=44
    ·have d:(bt s n=46)=True\/((bt s n=46)=False/\(bt s n=44)=True):=by
      by_cases hq:bt s n=46
      ·exact .inl (eq_true hq)
      ·exact .inr ⟨eq_false hq,eq_true (h12.resolve_left hq)⟩
     by_cases h8:n+1 < s.length
     ·have h8':((n+1:Nat):Int) < (s.length:Int):=by omega
      have h10:=hH h8;by_cases h11:dgI (bt s (n+1))=true
      ·obtain⟨l',ih,ih2⟩:=NW s hs k (n+2) (by omega) (by omega)
       have e:jn dgI 46 44 s (k+1) n=jn dgI 46 44 s k (n+2):=by
        simp only[jn];rw[if_pos h3,if_neg h6,if_pos ⟨h12,h8,h11⟩]
       rw[e];refine⟨l',?_,ih2⟩;rw[aA (L:=jK) rfl];have d3:cA (bt s (n+1))=3:=by simpa [dgI] using h11
       rcases d with d | ⟨d,d'⟩
       ·simp only[go_sem,h4,h5,h0,btd,f70,dc3,hw,hw2,d,h8',h9,h10,d3]
        exact ih
       ·simp only[go_sem,h4,h5,h0,btd,f70,dc3,hw,hw2,d,d',h8',h9,h10,d3]
        exact ih
      ·have e:jn dgI 46 44 s (k+1) n=n:=by
        simp only[jn];rw[if_pos h3,if_neg h6,if_neg (fun h=>h11 h.2.2)]
       have d3:¬ cA (bt s (n+1))=3:=by intro h;simp [dgI,h] at h11
       rw[e];rcases d with d | ⟨d,d'⟩
       ·refine Exists.intro ?_ (And.intro ?_ ?_)
        rotate_left 1
        ·rw[aA (L:=jK) rfl]
         simp only[go_sem,h4,h5,h0,btd,f70,dc3,hw,hw2,d,h8',h9,h10,d3];rfl
        ·rfl
       ·refine Exists.intro ?_ (And.intro ?_ ?_)
        rotate_left 1
        ·rw[aA (L:=jK) rfl]
         simp only[go_sem,h4,h5,h0,btd,f70,dc3,hw,hw2,d,d',h8',h9,h10,d3];rfl
        ·rfl
     ·have h8':¬ ((n+1:Nat):Int) < (s.length:Int):=by omega
      have e:jn dgI 46 44 s (k+1) n=n:=by
       simp only[jn];rw[if_pos h3,if_neg h6,if_neg (fun h=>h8 h.2.1)]
      rw[e];rcases d with d | ⟨d,d'⟩
      ·refine Exists.intro ?_ (And.intro ?_ ?_)
       rotate_left 1
       ·rw[aA (L:=jK) rfl]
        simp only[go_sem,h4,h5,h0,btd,f70,dc3,hw,hw2,d,h8',h9];rfl
       ·rfl
      ·refine Exists.intro ?_ (And.intro ?_ ?_)
       rotate_left 1
       ·rw[aA (L:=jK) rfl]
        simp only[go_sem,h4,h5,h0,btd,f70,dc3,hw,hw2,d,d',h8',h9];rfl
       ·rfl
    ·have e:jn dgI 46 44 s (k+1) n=n:=by
      simp only[jn];rw[if_pos h3,if_neg h6,if_neg (fun h=>h12 h.1)]
     rw[e];have d:(bt s n=46)=False:=eq_false (fun h=>h12 (.inl h));have d':(bt s n=44)=False:=eq_false (fun h=>h12 (.inr h));refine Exists.intro ?_ (And.intro ?_ ?_)
     rotate_left 1
     ·rw[aA (L:=jK) rfl]
      simp only[go_sem,h4,h5,h0,btd,f70,dc3,hw,hw2,d,d',h9];rfl
     ·rfl
  ·have h4:¬ (n:Int) < (s.length:Int):=by omega
   have e:jn dgI 46 44 s (k+1) n=n:=by simp only[jn,h3,if_false]
   rw[e];refine Exists.intro ?_ (And.intro ?_ ?_)
   rotate_left 1
   ·rw[aA (L:=jK) rfl]
    simp only[go_sem,h4];rfl
   ·rfl
theorem oY {s:List UInt8} (h:1<=s.length):(s == [])=false:=by
 cases s with
 | nil=>simp at h
 | cons a l=>rfl
theorem XN (s:List UInt8) (hs:s.length<=1000000) (h1:1<=s.length) (a:cA (bt s 0)=4):G0 44 [.str s] []=some (.int .i64 (nxN s),[]):=by
 refine aB F44 rfl rfl rfl ?_;have h5:=hH (s:=s) (n:=0) (by omega);obtain⟨l',hx,hx2⟩:=NX s hs s.length 1 (by omega) h1;simp only[go_sem] at hx;simp only[F44,go_sem,Int.le_refl,oY h1,h5,btd,f70,a,hx,hx2,eV,eF,nxN]
theorem FE (s:List UInt8) (h1:1<=s.length) (a:¬ cA (bt s 0)=4):G0 44 [.str s] []=some (.int .i64 0,[]):=by
 refine aB F44 rfl rfl rfl ?_;have h5:=hH (s:=s) (n:=0) (by omega);simp only[F44,go_sem,Int.le_refl,oY h1,h5,btd,f70,a]
theorem XM (s:List UInt8) (hs:s.length<=1000000) (h1:1<=s.length) (a:cA (bt s 0)=3):G0 45 [.str s] []=some (.int .i64 (nxN s),[]):=by
 refine aB F45 rfl rfl rfl ?_;have h5:=hH (s:=s) (n:=0) (by omega);obtain⟨l',hx,hx2⟩:=NW s hs s.length 1 (by omega) h1;simp only[go_sem] at hx;simp only[F45,go_sem,Int.le_refl,oY h1,h5,btd,f70,a,hx,hx2,eV,eF,nxN]
theorem FD (s:List UInt8) (h1:1<=s.length) (a:¬ cA (bt s 0)=3):G0 45 [.str s] []=some (.int .i64 0,[]):=by
 refine aB F45 rfl rfl rfl ?_;have h5:=hH (s:=s) (n:=0) (by omega);simp only[F45,go_sem,Int.le_refl,oY h1,h5,btd,f70,a]
theorem AA (s:List UInt8):∀ k k' n:Nat,s.length<=n+k->s.length<=n+k'->bl s k n=bl s k' n
 | 0,0,_,_,_=>rfl
 | 0,k'+1,n,h,_=>by simp only[bl];rw[if_neg (by omega)]
 | k+1,0,n,_,h=>by simp only[bl];rw[if_neg (by omega)]
 | k+1,k'+1,n,h,h'=>by simp only[bl];rw[AA s k k' (n+1) (by omega) (by omega)]
theorem S8 (s:List UInt8) (hs:s.length<=1000000) (h1:1<=s.length) (a:cA (bt s 0)=2):G0 46 [.str s] []=some (.int .i64 (nxN s),[]):=by
 rw[S9 s hs]
 have:bl s s.length 0=nxN s:=by
  obtain⟨k,hk⟩:∃ k,s.length=k+1:=⟨s.length - 1,by omega⟩
  simp only[nxN,a,Int.reduceEq,if_false,if_true];rw[show bl s s.length 0=bl s k 1 by rw[hk];simp only[bl];rw[if_pos ⟨by omega,a⟩]];exact AA s _ _ _ (by omega) (by omega)
 rw[this]
theorem FC (s:List UInt8) (hs:s.length<=1000000) (h1:1<=s.length) (a:¬ cA (bt s 0)=2):G0 46 [.str s] []=some (.int .i64 0,[]):=by
 rw[S9 s hs]
 have:bl s s.length 0=0:=by
  obtain⟨k,hk⟩:∃ k,s.length=k+1:=⟨s.length - 1,by omega⟩
  rw[hk];simp only[bl];rw[if_neg (fun h=>a h.2)]
 rw[this];rfl
end Go.Av
namespace Go.Av
open Go.Nt
def tE (b:UInt8):UInt8:=if (65:Int)<=(b.toNat:Int)/\(b.toNat:Int)<=90 then b+32 else b
def iU (s:List UInt8):List UInt8:=s.map tE
def fZ (s:List UInt8) (i:Nat):List UInt8:=iU (s.take i)++s.drop i
theorem zC (b:UInt8) (h:(65:Int)<=(b.toNat:Int)/\(b.toNat:Int)<=90):((tE b).toNat:Int)=(b.toNat:Int)+32:=by
 unfold tE;rw[if_pos h];have h2:b.toNat<=90:=by omega
 rw[UInt8.toNat_add];show (((b.toNat+32) % 256:Nat):Int)=_;omega
theorem lT (s:List UInt8) (i:Nat):(fZ s i).length=s.length:=by
 simp [fZ,iU];omega
theorem tD (s:List UInt8) (i:Nat) (h:i < s.length):(fZ s i)[i]?=some (s.getD i 0):=by
 unfold fZ;rw[getElem?_append_right (by simp [iU];omega)];simp [iU,getD_eq_getElem?_getD,h,Nat.min_eq_left (Nat.le_of_lt h)]
theorem m7 (s:List UInt8) (i:Nat) (h:i < s.length):fZ s (i+1)=(fZ s i).set i (tE (s.getD i 0)):=by
 apply ext_getElem?;intro j;rw[getElem?_set];simp only[lT];unfold fZ iU;by_cases h1:i=j
 ·subst h1
  rw[if_pos rfl,if_pos h,getElem?_append_left (by simp;omega)];simp [getD_eq_getElem?_getD,h]
 ·rw[if_neg h1]
  by_cases h2:j < i
  ·rw[getElem?_append_left (by simp;omega),getElem?_append_left (by simp;omega)]
   simp [getElem?_take,h2,Nat.lt_succ_of_lt h2]
  ·rw[getElem?_append_right (by simp;omega),getElem?_append_right (by simp;omega)]
   simp only[length_map,length_take,getElem?_drop]
   congr 1;omega
theorem rY (s:List UInt8) (i:Nat) (h:i < s.length) (hl:tE (s.getD i 0)=s.getD i 0):fZ s (i+1)=fZ s i:=by
 rw[m7 s i h,hl];apply ext_getElem?;intro j;rw[getElem?_set];split
 ·rename_i e;subst e
  rw[if_pos (by rw[lT];exact h),tD s i h]
 ·rfl
theorem u6 (s:List UInt8):fZ s s.length=iU s:=by simp [fZ]
theorem rX (s:List UInt8):fZ s 0=s:=by simp [fZ,iU]
theorem kQ (s:List UInt8):(bY s).length=s.length:=by simp [bY]
theorem sI {s:List UInt8} {i:Nat} {b:UInt8} (h:s[i]?=some b):(bY s)[i]?=some (.int .u8 b.toNat):=by simp [bY,h]
theorem qV (s:List UInt8) (i:Nat) (b:UInt8):(bY s).set i (.int .u8 b.toNat)=bY (s.set i b):=by simp [bY,map_set]
theorem eY (s:List UInt8):bP (bY s)=true:=by
 cases s with
 | nil=>rfl
 | cons a l=>rfl
theorem pL:∀ (i:Nat) (cs:List AV) (x:AV),i < cs.length->fX i [x] cs=some (cs.set i x)
 | 0,[],_,h=>by simp at h
 | 0,c :: cs,x,_=>by simp only[DP,uQ,Option.map_some,set_cons_zero]
 | i+1,[],_,h=>by simp at h
 | i+1,c :: cs,x,h=>by simp only[w6,pL i cs x (by simpa using h),Option.map_some,set_cons_succ]
theorem IntKind.wrap_u8 (x:Int):IntKind.u8.wrap x=x % 256:=by
 rfl
theorem SX (s:List UInt8) (hs:s.length<=1000000):∀ (k i:Nat),i+k=s.length ->
  aD G0 wC (ST [(3,.ss 0 0 s.length 1),(8,.int .i64 s.length),(9,.int .i64 i)] [] [bY (fZ s i)]) =
  some (.ex 0,ST [(3,.ss 0 0 s.length 1),(8,.int .i64 s.length),(9,.int .i64 s.length),(10,.bool false)] [] [bY (iU s)])
 | 0,i,h=>by
  have:i=s.length:=by omega
  subst this;rw[aA (L:=wC) rfl];simp only[go_sem,Int.lt_irrefl,u6]
 | k+1,i,h=>by
  have h3:i < s.length:=by omega
  have h4:(i:Int) < (s.length:Int):=by omega
  have h0:(0:Int)<=(i:Int):=by omega
  have hw:=wI (i:=i) (by omega)
  have ih:=SX s hs k (i+1) (by omega);have ha:=sI (tD s i h3);by_cases hl:(65:Int)<=((s.getD i 0).toNat:Int)/\((s.getD i 0).toNat:Int)<=90
  ·have hn:=zC _ hl
   have hw8:IntKind.u8.wrap (((s.getD i 0).toNat:Int)+32)=((tE (s.getD i 0)).toNat:Int):=by
    rw[hn,IntKind.wrap_u8];omega
   have hp:∀ x,fX i [x] (bY (fZ s i))=some ((bY (fZ s i)).set i x):=fun x=>pL _ _ x (by rw[kQ,lT];exact h3)
   rw[aA (L:=wC) rfl];simp only[go_sem,h4,h0,hw,Nat.mul_one,Nat.zero_add,ha,eY,hl.1,hl.2,hw8,hp,qV,set_cons_zero,<- m7 s i h3];exact ih
  ·have e:fZ s (i+1)=fZ s i:=rY s i h3 (by unfold tE;rw[if_neg hl])
   rw[e] at ih;rw[aA (L:=wC) rfl];by_cases h6:(65:Int)<=((s.getD i 0).toNat:Int)
   ·have h7:¬ ((s.getD i 0).toNat:Int)<=90:=fun h=>hl ⟨h6,h⟩
    simp only[go_sem,h4,h0,hw,Nat.mul_one,Nat.zero_add,ha,eY,h6,h7];exact ih
   ·simp only[go_sem,h4,h0,hw,Nat.mul_one,Nat.zero_add,ha,eY,h6]
    exact ih
theorem yQ (s:List UInt8):cV 0 s.length 1 (bY s)=some (aM s):=by
 have h1:∀ s:List UInt8,(bY s).all (fun x=>a9 (aH x))=true:=by
  intro s
  induction s with
  | nil=>rfl
  | cons a l ih=>simp [bY,aH,a9]
 have h2:∀ s:List UInt8,(bY s).map aH=bY s:=by
  intro s;simp [bY,aH]
 have h3:∀ s:List UInt8,cK 1 s.length (bY s)=aM s:=by
  intro s
  induction s with
  | nil=>rfl
  | cons a l ih =>
   have:bY (a :: l)=.int .u8 (a.toNat:Int) :: bY l:=rfl
   rw[this];simpa [cK,aM] using ih
 unfold cV;have h4:((bY s).drop 0).take (s.length*1)=bY s:=by rw[Nat.mul_one,drop_zero];exact take_of_length_le (by rw[kQ];exact Nat.le_refl _)
 rw[h4,h2,h3,if_pos ⟨by decide,by simp [bY],h1 s⟩]
theorem XQ (s:List UInt8) (hs:s.length<=1000000):G0 86 [.str s] []=some (.str (iU s),[]):=by
 refine aB F86 rfl rfl rfl ?_;have hx:=SX s hs s.length 0 (by omega);rw[rX] at hx;have hb:s.length<=140737488355328:=by omega
 have hr:=yQ (iU s);have hll:(iU s).length=s.length:=by simp [iU]
 rw[hll] at hr;simp only[go_sem] at hx;simp only[F86,go_sem,hb,hx,hr]
theorem SV (s:List UInt8) (hs:s.length<=1000000):∀ (k i:Nat),i+k=s.length ->
  aD G0 wD (ST [(3,.ss 0 0 s.length 1),(8,.ss 0 0 s.length 1),(9,.int .i64 s.length),(10,.int .i64 i)] [] [bY (fZ s i)]) =
  some (.ex 0,ST [(3,.ss 0 0 s.length 1),(8,.ss 0 0 s.length 1),(9,.int .i64 s.length),(10,.int .i64 s.length),(11,.bool false)] [] [bY (iU s)])
 | 0,i,h=>by
  have:i=s.length:=by omega
  subst this;rw[aA (L:=wD) rfl];simp only[go_sem,Int.lt_irrefl,u6]
 | k+1,i,h=>by
  have h3:i < s.length:=by omega
  have h4:(i:Int) < (s.length:Int):=by omega
  have h0:(0:Int)<=(i:Int):=by omega
  have hw:=wI (i:=i) (by omega)
  have ih:=SV s hs k (i+1) (by omega);have ha:=sI (tD s i h3);by_cases hl:(65:Int)<=((s.getD i 0).toNat:Int)/\((s.getD i 0).toNat:Int)<=90
  ·have hn:=zC _ hl
   have hw8:IntKind.u8.wrap (IntKind.u8.wrap (((s.getD i 0).toNat:Int)+97) - 65)=((tE (s.getD i 0)).toNat:Int):=by
    rw[hn,IntKind.wrap_u8,IntKind.wrap_u8];omega
   have hp:∀ x,fX i [x] (bY (fZ s i))=some ((bY (fZ s i)).set i x):=fun x=>pL _ _ x (by rw[kQ,lT];exact h3)
   rw[aA (L:=wD) rfl];simp only[go_sem,h4,h0,hw,Nat.mul_one,Nat.zero_add,ha,eY,hl.1,hl.2,hw8,hp,qV,set_cons_zero,<- m7 s i h3];exact ih
  ·have e:fZ s (i+1)=fZ s i:=rY s i h3 (by unfold tE;rw[if_neg hl])
   rw[e] at ih;rw[aA (L:=wD) rfl];by_cases h6:(65:Int)<=((s.getD i 0).toNat:Int)
   ·have h7:¬ ((s.getD i 0).toNat:Int)<=90:=fun h=>hl ⟨h6,h⟩
    simp only[go_sem,h4,h0,hw,Nat.mul_one,Nat.zero_add,ha,eY,h6,h7];exact ih
   ·simp only[go_sem,h4,h0,hw,Nat.mul_one,Nat.zero_add,ha,eY,h6]
    exact ih
theorem XO (s:List UInt8) (hs:s.length<=1000000):G0 84 [.str s] []=some (.str (iU s),[]):=by
 refine aB F84 rfl rfl rfl ?_;have hx:=SV s hs s.length 0 (by omega);rw[rX] at hx;have hb:s.length<=140737488355328:=by omega
 have hr:=yQ (iU s);have hll:(iU s).length=s.length:=by simp [iU]
 rw[hll] at hr;simp only[go_sem] at hx;simp only[F84,go_sem,hb,hx,hr]
def kyF (k:Int) (s:List UInt8):List UInt8:=if k=6 then iU s else s
theorem TD (k i:Int) (s:List UInt8) (hs:s.length<=1000000):G0 81 [.agg [.int .i64 k,.str s,.int .i64 i]] []=some (.str (kyF k s),[]):=by
 refine aB F81 rfl rfl rfl ?_;by_cases h1:k=6
 ·simp only[F81,go_sem,h1,kyF,XQ s hs]
 ·simp only[F81,go_sem,h1,kyF]
theorem TC (k i:Int) (s:List UInt8) (hs:s.length<=1000000):G0 76 [.agg [.int .i64 k,.str s,.int .i64 i]] []=some (.str (kyF k s),[]):=by
 refine aB F76 rfl rfl rfl ?_;by_cases h1:k=6
 ·simp only[F76,go_sem,h1,kyF,XO s hs]
 ·simp only[F76,go_sem,h1,kyF]
def mF:Nat->List UInt8->List Tk
 | 0,_=>[]
 | k+1,s=>if 1<=s.length then (nxK s,s.take (nxN s),0) :: mF k (s.drop (nxN s)) else []
theorem SY:∀ (k:Nat) (s:List UInt8) (md:Own) (out:List Tk),md≠.no->s.length<=k->out.length+s.length<=1000000 ->
  ∃ md',aD G0 wF (ST [(0,.str s),(3,.sl md 3 (tks out))] [] [])=some (.ex 0,ST [(0,.str []),(3,.sl md' 3 (tks (out++mF k s))),(11,.bool false)] [] [])
 | 0,s,md,out,hm,h1,h2=>by
  have:s=[]:=eq_nil_of_length_eq_zero (by omega)
  subst this;refine⟨md,?_⟩;rw[aA (L:=wF) rfl];simp only[go_sem,mF,Int.lt_irrefl]
 | k+1,s,md,out,hm,h1,h2=>by
  by_cases h3:1<=s.length
  ·have hn:=DY s h3
   obtain⟨md',ih⟩:=SY k (s.drop (nxN s)) .own (out++[(nxK s,s.take (nxN s),0)]) (by decide) (by simp;omega) (by simp;omega);have h4:(0:Int) < (s.length:Int):=by omega
   have h5:(0:Int) < (nxN s:Int):=by omega
   have h6:(0:Int)<=(nxN s:Int):=by omega
   have h7:(nxN s:Int)<=(s.length:Int):=by omega
   have hs:s.length<=1000000:=by omega
   have ha:cG 32 (out.length+1)=true:=bH (by decide) (by omega);refine⟨md',?_⟩;rw[aA (L:=wF) rfl];simp only[mF,h3,if_true];rw[append_assoc] at ih;by_cases a1:cA (bt s 0)=4
   ·have dk1:nxK s=6:=by simp only[nxK,a1,if_true]
    rw[dk1] at ih ⊢;simp only[go_sem,h4,XN s hs h3 a1,FD s h3 (by omega),FC s hs h3 (by omega),h5,h6,h7,Int.lt_irrefl,bV md _ hm 3 32 (by decide),aG,ha,iA,dQ];exact ih
   by_cases a2:cA (bt s 0)=3
   ·have dk1:nxK s=7:=by rw[nxK,if_neg a1,if_pos a2]
    rw[dk1] at ih ⊢;simp only[go_sem,h4,FE s h3 a1,XM s hs h3 a2,FC s hs h3 (by omega),h5,h6,h7,Int.lt_irrefl,bV md _ hm 3 32 (by decide),aG,ha,iA,dQ];exact ih
   by_cases a3:cA (bt s 0)=2
   ·have dk1:nxK s=8:=by rw[nxK,if_neg a1,if_neg a2,if_pos a3]
    rw[dk1] at ih ⊢;simp only[go_sem,h4,FE s h3 a1,FD s h3 a2,S8 s hs h3 a3,h5,h6,h7,Int.lt_irrefl,bV md _ hm 3 32 (by decide),aG,ha,iA,dQ];exact ih
   ·have dk1:nxK s=9:=by simp only[nxK,a1,a2,a3,if_true,if_false]
    have n1:nxN s=1:=by simp only[nxN,a1,a2,a3,if_true,if_false]
    have h8:(1:Int)<=(s.length:Int):=by omega
    rw[dk1,n1] at ih ⊢;simp only[go_sem,h4,FE s h3 a1,FD s h3 a2,FC s hs h3 a3,h8,Int.lt_irrefl,bV md _ hm 3 32 (by decide),aG,ha,iA,dQ];exact ih
  ·have:s=[]:=eq_nil_of_length_eq_zero (by omega)
   subst this;refine⟨md,?_⟩;rw[aA (L:=wF) rfl];simp only[go_sem,mF,Int.lt_irrefl]
def tW (s:List UInt8):List Tk:=mF s.length s
theorem XR (s:List UInt8) (hs:s.length<=1000000):G0 26 [.str s] []=some (.sl .no 3 (tks (tW s)),[]):=by
 refine aB F26 rfl rfl rfl ?_;obtain⟨md',hx⟩:=SY s.length s .full [] (by decide) (by omega) (by simpa using hs);simp only[go_sem,eI] at hx;simp only[F26,go_sem,hx,tW]
end Go.Av
namespace Go.Av
open Go.Nt
theorem t75 (a b:Tk):G0 75 [.agg (tkR a),.agg (tkR b)] []=some (.bool (smT a b),[]):=by
 obtain⟨k,s,n⟩:=a;obtain⟨l,t,m⟩:=b;refine aB F75 rfl rfl rfl ?_;unfold smT;by_cases h:k=l
 ·subst h
  have e:(s == t)=decide (s=t):=by rw[Bool.eq_iff_iff];simp
  simp only[F75,tkR,go_sem,decide_true,Bool.true_and,e]
 ·simp only[F75,tkR,go_sem,h,decide_false,Bool.false_and]
theorem t80 (a b:Tk):G0 80 [.agg (tkR a),.agg (tkR b)] []=some (.bool (smT a b),[]):=by
 obtain⟨k,s,n⟩:=a;obtain⟨l,t,m⟩:=b;refine aB F80 rfl rfl rfl ?_;unfold smT;by_cases h:k=l
 ·subst h
  have e:(s == t)=decide (s=t):=by rw[Bool.eq_iff_iff];simp
  simp only[F80,tkR,go_sem,decide_true,Bool.true_and,e]
 ·simp only[F80,tkR,go_sem,h,decide_false,Bool.false_and]
theorem t74 (a:Tk):G0 74 [.agg (tkR a)] []=some (.bool (tgT a),[]):=by
 obtain⟨k,s,n⟩:=a;refine aB F74 rfl rfl rfl ?_;unfold tgT;by_cases h2:k=2
 ·subst h2;simp only[F74,tkR,go_sem];try rfl
 ·by_cases h3:k=3
  ·subst h3;simp only[F74,tkR,go_sem];try rfl
  ·by_cases h4:k=4
   ·subst h4;simp only[F74,tkR,go_sem];try rfl
   ·simp only[F74,tkR,go_sem,h2,h3,h4,decide_false,or_self]
theorem t68 (a:Tk):G0 68 [.agg (tkR a)] []=some (.bool (tgT a),[]):=by
 obtain⟨k,s,n⟩:=a;refine aB F68 rfl rfl rfl ?_;unfold tgT;by_cases h2:k=2
 ·subst h2;simp only[F68,tkR,go_sem];try rfl
 ·by_cases h3:k=3
  ·subst h3;simp only[F68,tkR,go_sem];try rfl
  ·by_cases h4:k=4
   ·subst h4;simp only[F68,tkR,go_sem];try rfl
   ·simp only[F68,tkR,go_sem,h2,h3,h4,decide_false,or_self]
theorem EO (k:Int):k=2\/k=3\/k=4\/k=5\/k=6\/k=7\/k=8\/k=9\/(¬ k=2/\¬ k=3/\¬ k=4/\¬ k=5/\¬ k=6/\¬ k=7/\¬ k=8/\¬ k=9):=by omega
theorem t73 (a:Tk):G0 73 [.agg (tkR a)] []=some (.int .i64 (wgT a),[]):=by
 obtain⟨k,s,n⟩:=a;refine aB F73 rfl rfl rfl ?_;unfold wgT;rcases EO k with h | h | h | h | h | h | h | h | ⟨h2,h3,h4,h5,h6,h7,h8,h9⟩
 ·subst h;simp only[F73,tkR,go_sem];try rfl
 ·subst h;simp only[F73,tkR,go_sem];try rfl
 ·subst h;simp only[F73,tkR,go_sem];try rfl
 ·subst h;simp only[F73,tkR,go_sem];try rfl
 ·subst h;simp only[F73,tkR,go_sem];try rfl
 ·subst h;simp only[F73,tkR,go_sem];try rfl
 ·subst h;simp only[F73,tkR,go_sem];try rfl
 ·subst h;simp only[F73,tkR,go_sem];try rfl
 ·simp only[F73,tkR,go_sem,h2,h3,h4,h5,h6,h7,h8,h9,or_self,if_false];try rfl
theorem t65 (a:Tk):G0 65 [.agg (tkR a)] []=some (.int .i64 (wgT a),[]):=by
 obtain⟨k,s,n⟩:=a;refine aB F65 rfl rfl rfl ?_;unfold wgT;rcases EO k with h | h | h | h | h | h | h | h | ⟨h2,h3,h4,h5,h6,h7,h8,h9⟩
 ·subst h;simp only[F65,tkR,go_sem];try rfl
 ·subst h;simp only[F65,tkR,go_sem];try rfl
 ·subst h;simp only[F65,tkR,go_sem];try rfl
 ·subst h;simp only[F65,tkR,go_sem];try rfl
 ·subst h;simp only[F65,tkR,go_sem];try rfl
 ·subst h;simp only[F65,tkR,go_sem];try rfl
 ·subst h;simp only[F65,tkR,go_sem];try rfl
 ·subst h;simp only[F65,tkR,go_sem];try rfl
 ·simp only[F65,tkR,go_sem,h2,h3,h4,h5,h6,h7,h8,h9,or_self,if_false];try rfl
theorem t57 (a:Tk):G0 57 [.agg (tkR a)] []=some (.int .i64 (aln a),[]):=by
 have g1:=t74 a;have g2:=t73 a;unfold tkR at g1 g2;refine aB F57 rfl rfl rfl ?_;unfold aln;by_cases h:tgT a=true
 ·rw[h] at g1
  rw[if_pos h];simp only[F57,tkR,go_sem,g1]
  try rfl
 ·have h':tgT a=false:=by simpa using h
  rw[h'] at g1;rw[if_neg h];simp only[F57,tkR,go_sem,g1,g2]
theorem t67 (a:Tk):G0 67 [.agg (tkR a)] []=some (.int .i64 (aln a),[]):=by
 have g1:=t68 a;have g2:=t65 a;unfold tkR at g1 g2;refine aB F67 rfl rfl rfl ?_;unfold aln;by_cases h:tgT a=true
 ·rw[h] at g1
  rw[if_pos h];simp only[F67,tkR,go_sem,g1]
  try rfl
 ·have h':tgT a=false:=by simpa using h
  rw[h'] at g1;rw[if_neg h];simp only[F67,tkR,go_sem,g1,g2]
end Go.Av
namespace Go.Av
open Go.Nt
def fK:Option Nat->AV
 | some n=>.tup [.int .i64 n,.bool true]
 | none=>.tup [.int .i64 0,.bool false]
theorem tG (k i:Int) (s:List UInt8):kyT (k,s,i)=kyF k s:=rfl
theorem t58 (a b:Tk) (ha:a.2.1.length<=1000000) (hb:b.2.1.length<=1000000):G0 58 [.agg (tkR a),.agg (tkR b)] []=some (fK (cst a b),[]):=by
 have g1:=t75 a b;have g2:=t73 a;obtain⟨k,s,n⟩:=a;obtain⟨l,t,m⟩:=b;have g3:=TC k n s ha;have g4:=TC l m t hb;simp only[tkR] at g1 g2;refine aB F58 rfl rfl rfl ?_;unfold cst;by_cases hs:smT (k,s,n) (l,t,m)=true
 ·rw[if_pos hs]
  rw[hs] at g1;simp only[F58,tkR,go_sem,g1,fK]
  try rfl
 rw[if_neg hs];have hs':smT (k,s,n) (l,t,m)=false:=by simpa using hs
 rw[hs'] at g1;by_cases hk:k=l
 case neg =>
  rw[if_pos (.inl hk)];simp only[F58,tkR,go_sem,g1,hk,fK,not_false_eq_true,decide_true]
 subst hk;rcases EO k with h | h | h | h | h | h | h | h | ⟨h2,h3,h4,h5,h6,h7,h8,h9⟩
 ·subst h;rw[if_pos (by simp)];simp only[F58,tkR,go_sem,g1,g2,g3,g4,fK,not_true_eq_false,decide_false]
 ·subst h;rw[if_pos (by simp)];simp only[F58,tkR,go_sem,g1,g2,g3,g4,fK,not_true_eq_false,decide_false]
 ·subst h;rw[if_pos (by simp)];simp only[F58,tkR,go_sem,g1,g2,g3,g4,fK,not_true_eq_false,decide_false]
 ·subst h;rw[if_neg (by simp),if_neg (by simp)];simp only[F58,tkR,go_sem,g1,g2,g3,g4,fK,not_true_eq_false,decide_false]
 ·subst h
  rw[if_neg (by simp),tG,tG];by_cases hq:kyF 6 s=kyF 6 t
  ·rw[if_pos ⟨rfl,hq⟩]
   rw[hq] at g3;simp only[F58,tkR,go_sem,g1,g2,g3,g4,fK,not_true_eq_false,decide_false,decide_true,beq_self_eq_true]
   try rfl
  ·rw[if_neg (fun z=>hq z.2)]
   have hq':(kyF 6 s == kyF 6 t)=false:=by simpa using hq
   simp only[F58,tkR,go_sem,g1,g2,g3,g4,fK,hq,hq',not_true_eq_false,decide_false]
 ·subst h;rw[if_neg (by simp),if_neg (by simp)];simp only[F58,tkR,go_sem,g1,g2,g3,g4,fK,not_true_eq_false,decide_false]
 ·subst h;rw[if_neg (by simp),if_neg (by simp)];simp only[F58,tkR,go_sem,g1,g2,g3,g4,fK,not_true_eq_false,decide_false]
 ·subst h;rw[if_neg (by simp),if_neg (by simp)];simp only[F58,tkR,go_sem,g1,g2,g3,g4,fK,not_true_eq_false,decide_false]
 ·rw[if_pos (by show k≠k\/k < 5\/9 < k;omega)]
  simp only[F58,tkR,go_sem,g1,g2,g3,g4,fK,h2,h3,h4,h5,h6,h7,h8,h9,not_true_eq_false,decide_false]
end Go.Av
namespace Go.Av
open Go.Nt
theorem t66 (a b:Tk) (ha:a.2.1.length<=1000000) (hb:b.2.1.length<=1000000):G0 66 [.agg (tkR a),.agg (tkR b)] []=some (fK (cst a b),[]):=by
 have g1:=t80 a b;have g2:=t65 a;obtain⟨k,s,n⟩:=a;obtain⟨l,t,m⟩:=b;have g3:=TD k n s ha;have g4:=TD l m t hb;simp only[tkR] at g1 g2;refine aB F66 rfl rfl rfl ?_;unfold cst;by_cases hs:smT (k,s,n) (l,t,m)=true
 ·rw[if_pos hs]
  rw[hs] at g1;simp only[F66,tkR,go_sem,g1,fK]
  try rfl
 rw[if_neg hs];have hs':smT (k,s,n) (l,t,m)=false:=by simpa using hs
 rw[hs'] at g1;by_cases hk:k=l
 case neg =>
  rw[if_pos (.inl hk)];simp only[F66,tkR,go_sem,g1,hk,fK,not_false_eq_true,decide_true]
 subst hk;by_cases h5:k < 5
 ·rw[if_pos (.inr (.inl h5))]
  simp only[F66,tkR,go_sem,g1,h5,fK,not_true_eq_false,decide_false,decide_true]
 by_cases h9:9 < k
 ·rw[if_pos (.inr (.inr h9))]
  simp only[F66,tkR,go_sem,g1,h5,h9,fK,not_true_eq_false,decide_false,decide_true]
 rw[if_neg (by show ¬ (k≠k\/k < 5\/9 < k);omega)];by_cases h6:k=6
 ·subst h6
  rw[tG,tG];by_cases hq:kyF 6 s=kyF 6 t
  ·rw[if_pos ⟨rfl,hq⟩]
   rw[hq] at g3;simp only[F66,tkR,go_sem,g1,g2,g3,g4,fK,not_true_eq_false,decide_false,decide_true,beq_self_eq_true]
   try rfl
  ·rw[if_neg (fun z=>hq z.2)]
   have hq':(kyF 6 s == kyF 6 t)=false:=by simpa using hq
   simp only[F66,tkR,go_sem,g1,g2,g3,g4,fK,hq,hq',not_true_eq_false,decide_false]
   try rfl
 ·rw[if_neg (fun z=>h6 z.1)]
  simp only[F66,tkR,go_sem,g1,g2,h5,h9,h6,fK,not_true_eq_false,decide_false]
  try rfl
theorem KH {l:List Tk} {i:Nat} {t:Tk} (h:l[i]?=some t):ttl (l.take (i+1))=ttl (l.take i)+wgT t:=by
 unfold ttl;rw[take_add_one,h];show (List.map wgT (l.take i++[t])).sum=_;rw[map_append,sum_append];rfl
theorem l56 (l:List Tk) (hl:l.length<=100000):∀ (d i:Nat),i+d=l.length ->
  aD G0 AL (ST [(3,.int .i64 (ttl (l.take i))),(6,.sl .no 3 (tks l)),(7,.int .i64 l.length),(8,.int .i64 i)] [] [])=some (.ex 0,ST [(3,.int .i64 (ttl l)),(6,.sl .no 3 (tks l)),(7,.int .i64 l.length),(8,.int .i64 l.length),(9,.bool false)] [] [])
 | 0,i,h=>by
  have:i=l.length:=by omega
  subst this;rw[aA (L:=AL) rfl,take_length];simp only[go_sem,Int.lt_irrefl]
 | d+1,i,h=>by
  have hi:i < l.length:=by omega
  have h0:(0:Int)<=(i:Int):=by omega
  have h1:(i:Int) < (l.length:Int):=by omega
  have hw:=wI (i:=i) (by omega)
  obtain⟨t,hg⟩:∃ t,l[i]?=some t:=⟨_,getElem?_eq_getElem hi⟩
  have hr:=bZ hg;have g:=t73 t;have ih:=l56 l hl d (i+1) (by omega);have hb:=kD (l.take i);have hb2:=o5 t;have hlt:(l.take i).length<=l.length:=by rw[length_take];omega
  have hs:IntKind.i64.wrap ((ttl (l.take i):Int)+(wgT t:Int))=((ttl (l.take (i+1)):Nat):Int):=by rw[KH hg,w64 (by omega) (by omega)];rfl
  rw[<- ih];obtain⟨k,s,n⟩:=t;simp only[tkR] at g hr
  conv=>lhs;rw[aA (L:=AL) rfl]
  simp only[go_sem,aG,h0,h1,hr,hw,g,hs]
theorem t56 (l:List Tk) (hl:l.length<=100000):G0 56 [.sl .no 3 (tks l)] []=some (.int .i64 (ttl l),[]):=by
 have x:=l56 l hl l.length 0 (by omega);have e0:((0:Nat):Int)=0:=rfl;have e1:((ttl (l.take 0):Nat):Int)=0:=rfl;rw[e0,e1] at x;refine aB F56 rfl rfl rfl ?_;simp only[F56,go_sem,aG,x]
theorem l41 (l:List Tk) (hl:l.length<=100000):∀ (d i:Nat),i+d=l.length ->
  aD G0 AQ (ST [(3,.int .i64 (ttl (l.take i))),(6,.sl .no 3 (tks l)),(7,.int .i64 l.length),(8,.int .i64 i)] [] [])=some (.ex 0,ST [(3,.int .i64 (ttl l)),(6,.sl .no 3 (tks l)),(7,.int .i64 l.length),(8,.int .i64 l.length),(9,.bool false)] [] [])
 | 0,i,h=>by
  have:i=l.length:=by omega
  subst this;rw[aA (L:=AQ) rfl,take_length];simp only[go_sem,Int.lt_irrefl]
 | d+1,i,h=>by
  have hi:i < l.length:=by omega
  have h0:(0:Int)<=(i:Int):=by omega
  have h1:(i:Int) < (l.length:Int):=by omega
  have hw:=wI (i:=i) (by omega)
  obtain⟨t,hg⟩:∃ t,l[i]?=some t:=⟨_,getElem?_eq_getElem hi⟩
  have hr:=bZ hg;have g:=t65 t;have ih:=l41 l hl d (i+1) (by omega);have hb:=kD (l.take i);have hb2:=o5 t;have hlt:(l.take i).length<=l.length:=by rw[length_take];omega
  have hs:IntKind.i64.wrap ((ttl (l.take i):Int)+(wgT t:Int))=((ttl (l.take (i+1)):Nat):Int):=by rw[KH hg,w64 (by omega) (by omega)];rfl
  rw[<- ih];obtain⟨k,s,n⟩:=t;simp only[tkR] at g hr
  conv=>lhs;rw[aA (L:=AQ) rfl]
  simp only[go_sem,aG,h0,h1,hr,hw,g,hs]
theorem t41 (l:List Tk) (hl:l.length<=100000):G0 41 [.sl .no 3 (tks l)] []=some (.int .i64 (ttl l),[]):=by
 have x:=l41 l hl l.length 0 (by omega);have e0:((0:Nat):Int)=0:=rfl;have e1:((ttl (l.take 0):Nat):Int)=0:=rfl;rw[e0,e1] at x;refine aB F41 rfl rfl rfl ?_;simp only[F41,go_sem,aG,x]
theorem t37 (a b:List Tk) (ha:a.length<=100000) (hb:b.length<=100000):G0 37 [.sl .no 3 (tks a),.sl .no 3 (tks b)] []=some (.int .i64 ((max (ttl a) (ttl b):Nat):Int),[]):=by
 have g1:=t56 a ha;have g2:=t56 b hb;have e:((max (ttl a) (ttl b):Nat):Int)=max (ttl a:Int) (ttl b:Int):=by omega
 rw[e];refine aB F37 rfl rfl rfl ?_;simp only[F37,go_sem,g1,g2]
theorem t24 (a b:List Tk) (ha:a.length<=100000) (hb:b.length<=100000):G0 24 [.sl .no 3 (tks a),.sl .no 3 (tks b)] []=some (.int .i64 ((max (ttl a) (ttl b):Nat):Int),[]):=by
 have g1:=t41 a ha;have g2:=t41 b hb;have e:((max (ttl a) (ttl b):Nat):Int)=max (ttl a:Int) (ttl b:Int):=by omega
 rw[e];refine aB F24 rfl rfl rfl ?_;simp only[F24,go_sem,g1,g2]
end Go.Av
