/- The law MemoryExchanges. No conditions. -/
import Derived.Test.YtmjfblcmbcfkcaaGreatDoorG2XJ
open List
set_option linter.unusedSimpArgs false
set_option linter.unusedVariables false
set_option linter.unusedSectionVars false
set_option maxRecDepth 100000
set_option maxHeartbeats 16000000
namespace Go.Av
open Go.Nt
end Go.Av
