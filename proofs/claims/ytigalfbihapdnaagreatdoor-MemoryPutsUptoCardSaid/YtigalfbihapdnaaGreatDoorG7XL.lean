/- Long memories; the law MemoryLimits. No conditions. -/
import Derived.Test.YtigalfbihapdnaaGreatDoorG7XK
open List
set_option linter.unusedSimpArgs false
set_option linter.unusedVariables false
set_option linter.unusedSectionVars false
set_option maxRecDepth 100000
set_option maxHeartbeats 16000000
namespace Go.Av
open Go.Nt
def lt (a:Nat):UInt8:=UInt8.ofNat (97+a)
def s3 (i:Nat):Bs:=[lt (i / 400),lt (i / 20 % 20),lt (i % 20)]
end Go.Av
