/- A part of the proof: PG. No conditions. -/
import Derived.Test.YtmjfblcmbcfkcaaGreatDoorG2XE
import Derived.Test.YtmjfblcmbcfkcaaGreatDoorG2Ev19to21
import Derived.SizedLaws
import Derived.Deep.Strs
import Derived.Deep.Fields
open List
set_option linter.unusedSimpArgs false
set_option linter.unusedVariables false
set_option linter.unusedSectionVars false
set_option maxRecDepth 100000
set_option maxHeartbeats 16000000
namespace Go.Av
open Go.ChangeShapes Go.WideShapes Go.ChangeAt Go.RowKit
section
variable {H:Type} {enc:TypeId × Value->H} {P:Program} {w:World} {base:Nat} {spare:Nat->Bool} {held:Bool}
end
section
open Go.Deep
section
variable {H:Type} {enc:TypeId × Value->H} {P:Program} {w:World} {base:Nat} {spare:Nat->Bool} {held:Bool}
theorem QL {r:Reach} {b0 n:Nat} {t:TypeId} {v:Value} {ow:Value->Nat->Nat->Prop} (ht:P.underlying t=some .string)
  (hval:Value.okWide P w r b0 t v) :
  ∃ x:List UInt8,aQ (cx0 (fun _=>0) (fun _=>0) (fun b _=>b < w.heap.size) w n) ow (.str x) v:=by
 obtain⟨s,rfl⟩:=okWide_string ht hval;exact⟨s.data.toList,by simp [aQ,aR,aF]⟩
end
end
end Go.Av
