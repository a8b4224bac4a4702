/- What the rows' condition on the listed tables gives the walks; a start that meets it. No conditions. -/
import Derived.Test.YtgbjlnijjonidaaGreatDoorTie
import Derived.Test.YtgbjlnijjonidaaGreatDoorCards
import Derived.Test.YtgbjlnijjonidaaGreatDoorG1Sm
import Derived.Test.YtgbjlnijjonidaaGreatDoorG1Ev19to29
import Derived.Lib.LaidTab
import Derived.Stop.LaidErr
import Derived.LaidMore
import Derived.LaidLaws
import Derived.SevenTiedAt
open List
set_option linter.unusedSimpArgs false
set_option linter.unusedVariables false
set_option linter.unusedSectionVars false
set_option maxRecDepth 100000
set_option maxHeartbeats 16000000
namespace Go.Proofs.YtgbjlnijjonidaaGreatDoor
open Go.ChangeShapes Go.WideShapes Go.ChangeAt Go.RowKit Go.Av
theorem own:ownKnob Tryz.prog.godebug=none:=by kernel_rfl
theorem GM:laidOutB Tryz.prog=true:=by kernel_rfl
def lst:List (String × DataW Unit):=[("math/bits.deBruijn32tab",Rows.laid_math_bits_deBruijn32tab),("math/bits.deBruijn64tab",Rows.laid_math_bits_deBruijn64tab),("internal/strconv.uint64pow10",Rows.laid_internal_strconv_uint64pow10)]
def B8:List Int:=[1,10,100,1000,10000,100000,1000000,10000000,100000000,1000000000,10000000000,100000000000,1000000000000,10000000000000,100000000000000,1000000000000000,10000000000000000,100000000000000000,1000000000000000000,10000000000000000000]
theorem xL {W:World} (k:IntKind) (b:Nat):∀ (l:List Int) (o:Nat),(∀ i,i < l.length->W.cell? ⟨b,o+i,none⟩=some (.int k (l.getD i 0)))->cW (fun b _=>b < W.heap.size) W (l.map (AV.int k)) b o
 | [],_,_=>by simp [cW]
 | x :: l,o,h=>by
  have h0:=h 0 (by simp);simp only[Nat.add_zero] at h0;refine⟨⟨World.block_lt_of_cell? W _ h0,_,h0,rfl⟩,xL k b l (o+1) fun i hi=>?_⟩
  have:=h (i+1) (by simp;omega)
  rw[show o+1+i=o+(i+1) by omega];simpa using this
theorem UW {W:World} (h:laidMetH Tryz.prog lst W):m8 (fun b _=>b < W.heap.size) W:=by
 rw[MakeChecks.laidMetH_plain _ _ _ (by kernel_rfl)] at h;have hg:Tryz.prog.globalNamed "internal/strconv.uint64pow10"=some 1:=by kernel_rfl
 have hT:Lib.TabIs Tryz.prog W "internal/strconv.uint64pow10" .u64 B8:=Lib.tabIs_of_head (t:=110) (e:=104) (n:=20) (rest:=[]) hg (by kernel_rfl) Tryz.underlying110 Tryz.underlying104 (by kernel_rfl) (by kernel_rfl) (laidMet.tail (laidMet.tail h));intro i k l hl;have hi:i=1/\k=.u64/\l=B8:=by
  unfold Gtab.tab seatTabs at hl;simp only at hl
  split at hl
  ·cases hl;exact⟨rfl,rfl,rfl⟩
  ·cases hl
 obtain⟨rfl,rfl,rfl⟩:=hi;exact xL .u64 1 B8 0 fun i hi=>by rw[Nat.zero_add];exact hT.cell hg i hi
theorem DF (os:Os) (args:Array Value):laidMetH Tryz.prog lst ((World.doorLaid Tryz.prog 400 os).forCall (fun _ _=>0) ⟨#[],args,[]⟩).memory:=
 laidMetH_of_parts3 (fuel:=8) (laidMet_of_run' 8 (by kernel_rfl) (by kernel_rfl)) (by kernel_rfl) (by kernel_rfl)
end Go.Proofs.YtgbjlnijjonidaaGreatDoor
