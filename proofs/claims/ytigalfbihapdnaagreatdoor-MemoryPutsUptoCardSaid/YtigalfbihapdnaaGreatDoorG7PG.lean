/- A part of the proof: PG. No conditions. -/
import Derived.Test.YtigalfbihapdnaaGreatDoorG7XD
import Derived.Test.YtigalfbihapdnaaGreatDoorG7Ev21to28
import Derived.SizedLaws
import Derived.Deep.Strs
import Derived.Deep.Fields
open List
set_option linter.unusedSimpArgs false
set_option linter.unusedVariables false
set_option linter.unusedSectionVars false
set_option maxRecDepth 100000
set_option maxHeartbeats 16000000
namespace Go.Av
open Go.ChangeShapes Go.WideShapes Go.ChangeAt Go.RowKit
section
variable {H:Type} {enc:TypeId × Value->H} {P:Program} {w:World} {base:Nat} {spare:Nat->Bool} {held:Bool}
theorem choose_list {X:Type} (R:Nat->X->Prop):∀ n,(∀ i,i < n->∃ x,R i x)->∃ l:List X,l.length=n/\∀ i x,l[i]?=some x->R i x
 | 0,_=>⟨[],rfl,by simp⟩
 | n+1,h=>by
  obtain⟨l,hl,hr⟩:=choose_list R n (fun i hi=>h i (by omega));obtain⟨x,hx⟩:=h n (by omega);refine⟨l++[x],by simp [hl],fun i y hy=>?_⟩;by_cases hi:i < l.length
  ·rw[getElem?_append_left hi] at hy;exact hr i y hy
  ·rw[getElem?_append_right (by omega)] at hy
   have:i - l.length=0:=by
    have:=(List.getElem?_eq_some_iff.1 hy).1
    simp at this;omega
   rw[this] at hy;simp at hy;subst hy
   have:i=n:=by omega
   rw[this];exact hx
end
section
open Go.Deep
section
variable {H:Type} {enc:TypeId × Value->H} {P:Program} {w:World} {base:Nat} {spare:Nat->Bool} {held:Bool}
theorem rep_str {r:Reach} {b0 n:Nat} {t:TypeId} {v:Value} {ow:Value->Nat->Nat->Prop} (ht:P.underlying t=some .string)
  (hval:Value.okWide P w r b0 t v) :
  ∃ x:List UInt8,RepT (cx0 (fun _=>0) (fun _=>0) (fun b _=>b < w.heap.size) w n) ow (.str x) v:=by
 obtain⟨s,rfl⟩:=okWide_string ht hval;exact⟨s.data.toList,by simp [RepT,RepE,RepF]⟩
end
end
end Go.Av
