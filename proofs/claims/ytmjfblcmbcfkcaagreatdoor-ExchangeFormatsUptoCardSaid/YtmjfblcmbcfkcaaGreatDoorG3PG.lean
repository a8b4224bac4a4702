/- A part of the proof: PG. No conditions. -/
import Derived.Test.YtmjfblcmbcfkcaaGreatDoorG3XD
import Derived.Test.YtmjfblcmbcfkcaaGreatDoorG3Ev19to21
import Derived.SizedLaws
import Derived.Deep.Strs
import Derived.Deep.Fields
open List
set_option linter.unusedSimpArgs false
set_option linter.unusedVariables false
set_option linter.unusedSectionVars false
set_option maxRecDepth 100000
set_option maxHeartbeats 16000000
namespace Go.Av
open Go.ChangeShapes Go.WideShapes Go.ChangeAt Go.RowKit
section
variable {H:Type} {enc:TypeId × Value->H} {P:Program} {w:World} {base:Nat} {spare:Nat->Bool} {held:Bool}
theorem tM {X:Type} (R:Nat->X->Prop):∀ n,(∀ i,i < n->∃ x,R i x)->∃ l:List X,l.length=n/\∀ i x,l[i]?=some x->R i x
 | 0,_=>⟨[],rfl,by simp⟩
 | n+1,h=>by
  obtain⟨l,hl,hr⟩:=tM R n (fun i hi=>h i (by omega));obtain⟨x,hx⟩:=h n (by omega);refine⟨l++[x],by simp [hl],fun i y hy=>?_⟩;by_cases hi:i < l.length
  ·rw[getElem?_append_left hi] at hy;exact hr i y hy
  ·rw[getElem?_append_right (by omega)] at hy
   have:i - l.length=0:=by
    have:=(List.getElem?_eq_some_iff.1 hy).1
    simp at this;omega
   rw[this] at hy;simp at hy;subst hy
   have:i=n:=by omega
   rw[this];exact hx
end
section
open Go.Deep
section
variable {H:Type} {enc:TypeId × Value->H} {P:Program} {w:World} {base:Nat} {spare:Nat->Bool} {held:Bool}
end
end
end Go.Av
