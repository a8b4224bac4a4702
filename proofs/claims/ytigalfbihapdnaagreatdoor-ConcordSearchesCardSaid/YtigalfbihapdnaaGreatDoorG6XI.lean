/- The law MemoryExchanges. No conditions. Deleting an entry; the law MemoryKeeps. No conditions. -/
import Derived.Test.YtigalfbihapdnaaGreatDoorG6XH
open List
set_option linter.unusedSimpArgs false
set_option linter.unusedVariables false
set_option linter.unusedSectionVars false
set_option maxRecDepth 100000
set_option maxHeartbeats 16000000
namespace Go.Av
open Go.Nt
end Go.Av
namespace Go.Av
open Go.Nt
end Go.Av
