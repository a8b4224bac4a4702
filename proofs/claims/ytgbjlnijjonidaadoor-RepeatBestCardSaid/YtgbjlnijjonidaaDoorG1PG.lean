/- A part of the proof: QG. No conditions. -/
import Derived.Test.YtgbjlnijjonidaaDoorG1XC
import Derived.Test.YtgbjlnijjonidaaDoorG1Ev19to29
import Derived.SizedLaws
import Derived.Deep.Strs
import Derived.Deep.Fields
open List
set_option linter.unusedSimpArgs false
set_option linter.unusedVariables false
set_option linter.unusedSectionVars false
set_option maxRecDepth 100000
set_option maxHeartbeats 16000000

namespace Go.Av
open Go.ChangeShapes Go.WideShapes Go.ChangeAt Go.RowKit
section
variable {H:Type} {enc:TypeId × Value->H} {P:Program} {w:World} {base:Nat} {spare:Nat->Bool} {held:Bool}
end
section
open Go.Deep
section
variable {H:Type} {enc:TypeId × Value->H} {P:Program} {w:World} {base:Nat} {spare:Nat->Bool} {held:Bool}
end
end
end Go.Av
