/- A part of the frame. No conditions. -/
import Derived.Test.YthnlilndompbaaaGreatDoorT1Ev21to28
open List
set_option linter.all false
set_option maxRecDepth 100000
set_option maxHeartbeats 16000000
namespace Go.Av
variable{Y:FuncId}{bd c:LL}{bf:Own}{bh zero:List AV}{eb:Program}{j n q:Nat}
variable [Gtab]
open Go.RowKit
section
variable{P:Program}
def vG(z bytes:Nat)(zero:List AV):ACode:=.seq (.reg false [] [
 ⟨some 5,.mks z zero 0 [],[],.none,none,none⟩,
 ⟨some 6,.mv,[.t 0],.none,none,none⟩,
 ⟨some 7,.app false z bytes,[.t 5,.t 6],.none,some 5,none⟩,
 ⟨some 2,.mvo,[.t 7],.none,some 7,none⟩] []) .ret
def uM(P:Program)(f:FuncId)(z bytes:Nat)(zero:List AV):Bool:=
 match P.funcs[f]? with
 | some fn=>(match fn.body with
  | some (.seq c0 (.seq (.seq (.region _ ops false) (.cond (.tmp 4) x .skip)) rest)) =>
   cV P fn.ntmps c0 (mL z)&&(match ops.toList with
     | [o3,a]=>okO P fn.ntmps ops o3 ⟨some 3,.mv,[.t 0],.none,none,none⟩&&a.dst==some 4&&a.guard.isNone&&yS P (.tmp 3) a.op
     | _=>false)&&cV P fn.ntmps x (.seq (mL z) .ret)&&cV P fn.ntmps rest (vG z bytes zero)
  | _=>false)&&decide (8<=fn.ntmps)&&iD P fn.results.toList [.tmp 2]&&!(fn.name == "runtime.NumGoroutine")
 | none=>false
def se(f:0<n)(d:q=n\/c=[])(g:aU j c.length=true):iN false n j (.sl .full n []) (.sl bf q c)=some (.sl .own n c):=by
 have b:c.length*j<=140737488355328/\c.length<=4611686018427387904:=by simpa [aU] using g
 cases c with
 | nil=>simp [iN,f,jZ]
 | cons a c =>
  have e:q=n:=d.resolve_right (by simp);subst e;simp only[jd] at b;simp [iN,f,jZ,b]
def FK(i:P.follows .mixedOrders=true)(k:uM P Y n j zero=true)(hz:0<n){bw:LL}
  (F:q=n\/bd=[])(hb:aU j bd.length=true):vO P Y/\fB P Y [.sl bf q bd] bw (.sl .no n bd) bw:=by
 unfold uM at k
 split at k
 case h_2=>cases k
 rename_i fn Q;simp only[ir,jo] at k;obtain⟨⟨⟨f,S⟩,C⟩,s⟩:=k
 split at f
 case h_2=>cases f
 rename_i c0 id ops x rest hC;simp only[ir] at f;obtain⟨⟨⟨h0,I⟩,h2⟩,L⟩:=f
 split at I
 case h_2=>cases I
 rename_i o3 o4 B;simp only[ir] at I;obtain⟨⟨⟨k1,k2⟩,k3⟩,k4⟩:=I;have G:o4.dst=some 4:=by simpa using k2
 have ar:o4.guard=none:=by simpa using k3
 refine LE (R:=1) (d:=true) (fg:=[.tmp 2]) Q hC (by omega) C (by simpa using s) rfl ?_;intro E g a w y ap hs;rw[<- y] at h0 h2 L k1;have hG:fK P (oB (λ_ _ _=>none) (λ_=>none) 0):=λ_ _ _ _ _ h=>by cases h
 rw[uX] at hs;refine ai2 ?_;have e0:aC GN (mL n) (ST (sZ 0 [.sl bf q bd]) [] bw)=some (.norm,ST [(0,.sl bf q bd),(2,.sl .full n [])] [] bw):=by
  simp only[mL,sZ,go_sem,Tw,Ec,qb,ab5,ab9,aa9,tn,Nat.reduceAdd,Nat.reduceEqDiff,Nat.reduceLT,↓reduceIte,jo,ad4,pk,sv,Tv,ju,kh,Int.reduceNeg,kv,ab3,jx,Lb,ad6,kt,qa,ms,jl,Nat.reduceAdd,jq,wn,jk,ve,jz,jd,ka,rk,w64,d4,xr,Int.reduceLT,Int.reduceAdd,Int.reduceSub,Int.reduceLE,Int.reduceEq,Int.reduceToNat,jp,Nat.reduceSub,Nat.reduceMul,Nat.reduceLeDiff,km,aa2,qs,jt,kr,kn,ko,kg]
 refine dX i h0 e0 ⟨g,hs⟩ λa1 w1 T=>?_
 refine ai2 ?_;refine ai2 ?_;refine al6 ?_;rw[B];have e1:cM (oB (λ_ _ _=>none) (λ_=>none) 0) ⟨some 3,.mv,[.t 0],.none,none,none⟩ (ST [(0,.sl bf q bd),(2,.sl .full n [])] [] bw)=some (put (ST [(0,.sl bf q bd),(2,.sl .full n [])] [] bw) (some 3) (aJ (.sl bf q bd))):=rfl;have J:put (ST [(0,.sl bf q bd),(2,.sl .full n [])] [] bw) (some 3) (aJ (.sl bf q bd))=ST [(0,.sl bf q bd),(2,.sl .full n []),(3,aJ (.sl bf q bd))] [] bw:=by
  simp only[put,ST,jW,fL];rfl
 rw[J] at e1;refine F3 hG T k1 e1 λa2 w2 U=>?_
 obtain⟨g2,D⟩:=U;have X:∃ A c,a2.eval (.tmp 3)=.slice A bd.length c/\(bd=[]\/A.isNone=false):=by
  obtain⟨A,c,q1,_,_,H⟩:=D.rdSl (x:=.tmp 3) (r:=.t 3) (m:=match bf with | .own=>.no | bf=>bf) (z:=q) (l:=bd) (by simp [okR]) (by cases bf<;>rfl);refine⟨A,c,q1,?_⟩;rcases H with H | ⟨b,o,H,_⟩
  ·exact .inl H
  ·exact .inr (by rw[H];rfl)
 obtain⟨A,c,q1,u⟩:=X;refine wpList_plain ar λK hK=>?_
 refine ah5 ?_ (HI D (λd hd=>by rw[G] at hd;injection hd with hd;rw[<- hd,y];exact sc (by decide) S) k4 q1);intro a3 w3 V;rw[G] at V;refine hK _ _ ?_;show ((Code.cond (.tmp 4) x .skip).wp P _ _ _);have e:aS E (ST [(0,.sl bf q bd),(2,.sl .full n []),(3,aJ (.sl bf q bd)),(4,.bool A.isNone)] [] bw) a3 w3:=by
  have:put (ST [(0,.sl bf q bd),(2,.sl .full n []),(3,aJ (.sl bf q bd))] [] bw) (some 4) (.bool A.isNone)=ST [(0,.sl bf q bd),(2,.sl .full n []),(3,aJ (.sl bf q bd)),(4,.bool A.isNone)] [] bw:=by
   simp only[put,ST,jW,fL];rfl
  rwa [<- this]
 have O:a3.eval (.tmp 4)=.bool A.isNone:=by
  obtain⟨g3,Z⟩:=e;exact Z.rdBool (r:=.t 4) (by simp [okR]) rfl
 refine wp_cond O ?_;cases M:A.isNone with
 | true =>
  have hl:bd=[]:=by
   rcases u with u | u
   ·exact u
   ·rw[M] at u;cases u
  subst hl;rw[M] at e;have v:aC GN (.seq (mL n) .ret) (ST [(0,.sl bf q []),(2,.sl .full n []),(3,aJ (.sl bf q [])),(4,.bool true)] [] bw)=some (.ret,ST [(0,.sl bf q []),(2,.sl .full n []),(3,aJ (.sl bf q [])),(4,.bool true)] [] bw):=by
   simp only[mL,go_sem,Tw,Ec,qb,ab5,ab9,aa9,tn,Nat.reduceAdd,Nat.reduceEqDiff,Nat.reduceLT,↓reduceIte,jo,ad4,pk,sv,Tv,ju,kh,Int.reduceNeg,kv,ab3,jx,Lb,ad6,kt,qa,ms,jl,Nat.reduceAdd,jq,wn,jk,ve,jz,jd,ka,rk,w64,d4,xr,Int.reduceLT,Int.reduceAdd,Int.reduceSub,Int.reduceLE,Int.reduceEq,Int.reduceToNat,jp,Nat.reduceSub,Nat.reduceMul,Nat.reduceLeDiff,km,aa2,qs,jt,kr,kn,ko,kg]
  refine dX i h2 v e λa4 w4 p=>?_
  exact⟨.inl rfl,_,p,by simp [yA,eH,t6,iT,pL,lM,sH,aJ,ST,aF,fV]⟩
 | false =>
  rw[M] at e;refine wp_skip ?_;have ha:∀ o:Own,iN false n j (.sl .full n []) (.sl o q bd)=some (.sl .own n bd):=λo=>se hz F hb
  cases bd with
  | nil =>
   have v:aC GN (vG n j zero) (ST [(0,.sl bf q []),(2,.sl .full n []),(3,aJ (.sl bf q [])),(4,.bool false)] [] bw)=some (.ret,ST [(0,.sl bf q []),(2,.sl .own n []),(3,aJ (.sl bf q [])),(4,.bool false),(5,.sl .full n []),(6,aJ (.sl bf q [])),(7,.sl .no n [])] [] bw):=by
    simp only[vG,Ng,ha,go_sem,Tw,Ec,qb,ab5,ab9,aa9,tn,Nat.reduceAdd,Nat.reduceEqDiff,Nat.reduceLT,↓reduceIte,jo,ad4,pk,sv,Tv,ju,kh,Int.reduceNeg,kv,ab3,jx,Lb,ad6,kt,qa,ms,jl,Nat.reduceAdd,jq,wn,jk,ve,jz,jd,ka,rk,w64,d4,xr,Int.reduceLT,Int.reduceAdd,Int.reduceSub,Int.reduceLE,Int.reduceEq,Int.reduceToNat,jp,Nat.reduceSub,Nat.reduceMul,Nat.reduceLeDiff,km,aa2,qs,jt,kr,kn,ko,kg]
   refine dX i L v e λa4 w4 p=>?_
   exact⟨.inl rfl,_,p,by simp [yA,eH,t6,iT,pL,lM,sH,aJ,ST,aF,fV]⟩
  | cons r bd =>
   have av:q=n:=by simpa using F
   subst av;have N:aU j (bd.length+1)=true:=hb;have v:aC GN (vG q j zero) (ST [(0,.sl bf q (r::bd)),(2,.sl .full q []),(3,aJ (.sl bf q (r::bd))),(4,.bool false)] [] bw)=some (.ret,ST [(0,.sl bf q (r::bd)),(2,.sl .own q (r::bd)),(3,aJ (.sl bf q (r::bd))),(4,.bool false),(5,.sl .full q []),(6,aJ (.sl bf q (r::bd))),(7,.sl .no q (r::bd))] [] bw):=by
    cases bf<;>simp only[vG,Ng,ha,go_sem,Tw,Ec,qb,ab5,ab9,aa9,tn,Nat.reduceAdd,Nat.reduceEqDiff,Nat.reduceLT,↓reduceIte,jo,ad4,pk,sv,Tv,ju,kh,Int.reduceNeg,kv,ab3,jx,Lb,ad6,kt,qa,ms,jl,Nat.reduceAdd,jq,wn,jk,ve,jz,jd,ka,rk,w64,d4,xr,Int.reduceLT,Int.reduceAdd,Int.reduceSub,Int.reduceLE,Int.reduceEq,Int.reduceToNat,jp,Nat.reduceSub,Nat.reduceMul,Nat.reduceLeDiff,km,aa2,qs,jt,kr,kn,ko,kg,hz,N]
   refine dX i L v e λa4 w4 p=>?_
   exact⟨.inl rfl,_,p,by simp [yA,eH,t6,iT,pL,lM,sH,aJ,ST,aF,fV]⟩
end
def LP(z bytes:Nat):List AV->LL->Option (AV×LL)
 | [.sl _ a l],sh=>if a=z/\aU bytes l.length=true then some (.sl .no z l,sh) else none
 | _,_=>none
def B4(a:eb.follows .mixedOrders=true)(b:uM eb Y n j zero=true)(e:0<n){bv:AV}
  (h:LP n j bh c=some (bv,bd)):vO eb Y/\fB eb Y bh c bv bd:=by
 unfold LP at h
 split at h
 ·rename_i m f l
  split at h
  ·rename_i d
   simp only[jc,jg] at h
   have:=FK (bf:=m) (bw:=c) a b e (.inl d.1) d.2
   rw[<- h.1,<- h.2];exact this
  ·cases h
 ·cases h
end Go.Av
