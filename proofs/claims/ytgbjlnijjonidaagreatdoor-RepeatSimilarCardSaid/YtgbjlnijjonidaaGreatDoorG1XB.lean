/- Renaming the tags of a valid fragment by any list of numbers. No conditions. -/
import Derived.Test.YtgbjlnijjonidaaGreatDoorG1XA
open List
set_option linter.unusedSimpArgs false
set_option linter.unusedVariables false
set_option linter.unusedSectionVars false
set_option maxRecDepth 100000
set_option maxHeartbeats 16000000
namespace Go.Nt
structure TVok (tv:List Int) (f:List It):Prop where
 hl:(cL f).length<=tv.length
 nd:tv.Nodup
 bd:∀ v∈tv,1<=v/\v<=999
def sgq (tv:List Int) (f:List It) (i:Int):Int:=(lkz (cL f) tv i).getD 0
theorem lA {tv:List Int} {f:List It} (H:TVok tv f) {i:Int} (h:i∈cL f):lkz (cL f) tv i=some (sgq tv f i):=by
 obtain⟨v,hv⟩:=pH (cL f) tv i H.hl h;rw[hv];unfold sgq;rw[hv];rfl
theorem J5 {tv:List Int} {f:List It} (H:TVok tv f) {i:Int} (h:i∈cL f):1<=sgq tv f i/\sgq tv f i<=999:=by
 obtain⟨j,h1,h2⟩:=kH _ _ _ _ (lA H h);exact H.bd _ (mem_of_getElem? h2)
theorem FQ {tv:List Int} {f:List It} (H:TVok tv f) {i k:Int} (hi:i∈cL f) (hk:k∈cL f) (h:sgq tv f i=sgq tv f k):i=k:=by
 obtain⟨j,h1,h2⟩:=kH _ _ _ _ (lA H hi);obtain⟨j',h1',h2'⟩:=kH _ _ _ _ (lA H hk);rw[<- h] at h2';obtain⟨q1,q2⟩:=List.getElem?_eq_some_iff.1 h2;obtain⟨q3,q4⟩:=List.getElem?_eq_some_iff.1 h2'
 have:j=j':=(getElem_inj H.nd).1 (q2.trans q4.symm)
 subst this;rw[h1] at h1';cases h1';rfl
def psi (tv:List Int) (f:List It) (x:It):It:=if aW x=true then (x.1,x.2.1,sgq tv f x.2.2) else x
theorem FZ {tv:List Int} {f:List It} (H:TVok tv f):fO (cL f) tv f=f.map (psi tv f):=by
 have key:∀ g:List It,(∀ x∈g,x∈f)->g.filterMap (iO (cL f) tv)=g.map (psi tv f):=by
  intro g
  induction g with
  | nil=>intro _;rfl
  | cons x g ih =>
   intro h;rw[filterMap_cons,map_cons,<- ih (fun y hy=>h y (by simp [hy]))];have e:iO (cL f) tv x=some (psi tv f x):=by
    unfold iO psi;by_cases ht:aW x=true
    ·rw[if_pos ht,if_pos ht,lA H (eV (h x (by simp)) ht)];rfl
    ·rw[if_neg ht,if_neg ht]
   rw[e]
 exact key f (fun x hx=>hx)
theorem nC (tv:List Int) (f:List It) (x:It):(psi tv f x).1=x.1/\(psi tv f x).2.1=x.2.1:=by unfold psi;split<;>simp
theorem nZ (tv:List Int) (f:List It) (x:It):aW (psi tv f x)=aW x:=by unfold aW;rw[(nC tv f x).1]
theorem z5 (tv:List Int) (f A:List It):fD (A.map (psi tv f))=fD A:=by
 rcases d5 A with rfl | ⟨B,y,rfl⟩
 ·rfl
 ·rw[map_append,map_singleton,dH,dH,(nC tv f y).1]
theorem z6 {tv:List Int} {f:List It} {x y:It} (H:TVok tv f) (hx:x∈f) (hy:y∈f) (ht:aW x=true):bZ (psi tv f x) (psi tv f y)=bZ x y:=by
 unfold bZ;rw[nZ,(nC tv f x).1,(nC tv f x).2,(nC tv f y).1,(nC tv f y).2];cases hty:aW y with
 | false=>rfl
 | true =>
  have e:decide ((psi tv f y).2.2=(psi tv f x).2.2)=decide (y.2.2=x.2.2):=by
   unfold psi;rw[if_pos hty,if_pos ht,decide_eq_decide];exact⟨fun q=>FQ H (eV hy hty) (eV hx ht) q,fun q=>by simp only[];rw[q]⟩
  rw[e]
theorem F0 {tv:List Int} {f A:List It} {x:It} (H:TVok tv f) (hA:∀ y∈A,y∈f) (hx:x∈f) (h:chk A x=0):chk (A.map (psi tv f)) (psi tv f x)=0:=by
 rw[l5] at h ⊢;have hw:wfB A x=true:=by
  cases q:wfB A x with
  | true=>rfl
  | false=>rw[q] at h;simp at h
 rw[hw] at h;have hw2:wfB (A.map (psi tv f)) (psi tv f x)=true:=by
  by_cases ht:aW x=true
  ·have hb:=J5 H (eV hx ht)
   have h1:¬ x.1=1:=fun q=>by rw[kX q] at ht;cases ht
   have h5:¬ x.1=5:=fun q=>by unfold aW at ht;rw[q] at ht;simp at ht
   unfold wfB at hw ⊢;rw[(nC tv f x).1,(nC tv f x).2];rw[if_neg h1,if_neg h5] at hw ⊢;have e:(psi tv f x).2.2=sgq tv f x.2.2:=by unfold psi;rw[if_pos ht]
   rw[e]
   split at hw
   ·rename_i q
    rw[if_pos q];simp only[Bool.and_eq_true,decide_eq_true_eq] at hw ⊢;exact⟨hw.1,by omega,by omega⟩
   ·rename_i q
    rw[if_neg q]
    split at hw
    ·rename_i q3
     rw[if_pos q3];simp only[Bool.and_eq_true,decide_eq_true_eq] at hw ⊢;exact⟨hw.1,by omega,by omega⟩
    ·cases hw
  ·have e:psi tv f x=x:=by unfold psi;rw[if_neg ht]
   rw[e];unfold wfB at hw ⊢;rw[z5];exact hw
 rw[hw2,nZ];simp only[if_true] at h ⊢;cases ht:aW x with
 | false=>rfl
 | true =>
  rw[ht] at h;simp only[if_true] at h ⊢;have e:i9 (A.map (psi tv f)) (psi tv f x)=i9 A x:=by
   unfold i9
   congr 1
   rw[any_map]
   have:∀ B:List It,(∀ y∈B,y∈f)->B.any (bZ (psi tv f x) ∘ psi tv f)=B.any (bZ x):=by
    intro B
    induction B with
    | nil=>intro _;rfl
    | cons y B ih =>
     intro hB;rw[any_cons,any_cons,ih (fun z hz=>hB z (by simp [hz]))];show (bZ (psi tv f x) (psi tv f y) || _)=_;rw[z6 H hx (hB y (by simp)) ht]
   exact this A hA
  rw[e];exact h
theorem t6 {tv:List Int} {f:List It} (H:TVok tv f):∀ (B A:List It),(∀ y∈A,y∈f)->(∀ y∈B,y∈f)->dB A B=0->dB (A.map (psi tv f)) (B.map (psi tv f))=0
 | [],A,_,_,_=>rfl
 | x :: B,A,hA,hB,h=>by
  simp only[dB] at h;have h0:chk A x=0:=by
   by_cases q:chk A x=0
   ·exact q
   ·rw[if_pos q] at h;exact absurd h q
  rw[if_neg (by simp [h0])] at h;have h1:=F0 H hA (hB x (by simp)) h0
  have ih:=t6 H B (A++[x]) (fun y hy=>by
   rcases mem_append.1 hy with q | q
   ·exact hA y q
   ·simp only[mem_singleton] at q;subst q;exact hB y (by simp)) (fun y hy=>hB y (by simp [hy])) h
  rw[map_append,map_singleton] at ih;rw[map_cons];simp only[dB];rw[if_neg (by simp [h1])];exact ih
theorem TZ {tv:List Int} {f:List It} (H:TVok tv f) (h:VL f):VL (f.map (psi tv f)):=t6 H f [] (by simp) (fun y hy=>hy) h
theorem GE (f:List It):(cL f).length<=(tg f).length:=by
 have key:∀ (f:List It) (l:List Int),(f.foldl fA l).length<=l.length+(tg f).length:=by
  intro f
  induction f with
  | nil=>intro l;simp [tg]
  | cons x f ih =>
   intro l;have h:=ih (fA l x);rw[foldl_cons];have e:tg (x :: f)=tg [x]++tg f:=by rw[<- eG];rfl
   rw[e,length_append];by_cases ht:aW x=true
   ·rw[gH ht]
    have:(fA l x).length<=l.length+1:=by unfold fA;split<;>simp
    simp only[length_singleton];omega
   ·have e2:fA l x=l:=by unfold fA;rw[if_neg (fun z=>ht z.1)]
    rw[e2] at h ⊢;omega
 simpa [cL] using key f []
theorem JQ (tv:List Int) (f g:List It):(tg (g.map (psi tv f))).length=(tg g).length:=by
 induction g with
 | nil=>rfl
 | cons x g ih =>
  have e:tg (x :: g)=tg [x]++tg g:=by rw[<- eG];rfl
  have e2:tg ((x :: g).map (psi tv f))=tg [psi tv f x]++tg (g.map (psi tv f)):=by rw[<- eG];rfl
  rw[e,e2,length_append,length_append,ih]
  congr 1
  by_cases ht:aW x=true
  ·rw[gH ht,gH (by rw[nZ];exact ht)];rfl
  ·have ht':aW x=false:=by simpa using ht
   rw[qR ht',qR (by rw[nZ];exact ht')]
def GV (f:List It):Prop:=VL f/\(tg f).length<=4
theorem LD {f:List It} (h:GV f):GV (nrm (fO (cL f) [9,4,6,2,8,3] f)):=by
 have hn:=GE f;have H:TVok [9,4,6,2,8,3] f:=⟨by have:=h.2;simp;omega,by decide,by decide⟩
 have hv:=TZ H h.1;rw[FZ H,KM hv];exact⟨hv,by rw[JQ];exact h.2⟩
theorem LE {f:List It} (h:GV f) (x:It) (hx:x.1=1):GV (nrm (f++[x])):=by
 rw[uC h.1];exact⟨qI h.1 hx,by rw[kC hx];exact h.2⟩
theorem P9 {f:List It} (h:vld f=0) (hl:f.length<=4):GV f:=⟨((fE f).1 h).1,Nat.le_trans (length_filter_le _ _) hl⟩
end Go.Nt
