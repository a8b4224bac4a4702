/-  -/
import Derived.Test.YtgbjlnijjonidaaGreatDoorG1XA
import Derived.Test.YtgbjlnijjonidaaGreatDoorChecked
import Derived.Deep.LoopGhost
import Derived.Deep.RegionHeld3
import Derived.Deep.RegionWith
import Derived.Lib.Walk
import Derived.IntWalk
import Derived.Lib.Hide
import Derived.WalkKit
open List
set_option linter.unusedSimpArgs false
set_option linter.unusedVariables false
set_option linter.unusedSectionVars false
set_option maxRecDepth 100000
set_option maxHeartbeats 16000000
namespace Go.Av
open Go.Proofs Go.RowKit Go.Nt Go.Maps
set_option maxHeartbeats 4000000
theorem yE (w:World) (k:Int) (s:ByteArray) (n:Int):Calls Tryz.prog 73 #[.agg #[.int .i64 k,.string s,.int .i64 n]] w fun e w'=>e=.returned (.bool (decide (k=2\/k=3\/k=4)))/\Below w.heap.size w w':=by
 by_cases h2:k=2
 ·subst h2
  go_enter Tryz.func73,Tryz.ntmps73
  go_wp2
  go_ret
  exact⟨rfl,(Below.refl _ _).alloc (Nat.le_refl _) _⟩
 ·by_cases h3:k=3
  ·subst h3
   go_enter Tryz.func73,Tryz.ntmps73
   go_wp2
   go_ret
   exact⟨rfl,(Below.refl _ _).alloc (Nat.le_refl _) _⟩
  ·by_cases h4:k=4
   ·subst h4
    go_enter Tryz.func73,Tryz.ntmps73
    go_wp2
    go_ret
    exact⟨rfl,(Below.refl _ _).alloc (Nat.le_refl _) _⟩
   ·go_enter Tryz.func73,Tryz.ntmps73
    go_wp2
    all_goals go_ret
    all_goals first | exact⟨by simp [h2,h3,h4],(Below.refl _ _).alloc (Nat.le_refl _) _⟩ | (exfalso;omega)
end Go.Av
