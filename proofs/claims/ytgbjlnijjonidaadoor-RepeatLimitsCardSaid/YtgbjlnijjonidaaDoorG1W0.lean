/- What the rows' condition on the listed tables gives the walks; a start that meets it. No conditions. -/
import Derived.Test.YtgbjlnijjonidaaDoorTie
import Derived.Test.YtgbjlnijjonidaaDoorCards
import Derived.Test.YtgbjlnijjonidaaDoorG1Sm
import Derived.Test.YtgbjlnijjonidaaDoorG1Ev19to29
import Derived.Lib.LaidTab
import Derived.Stop.LaidErr
import Derived.LaidMore
import Derived.LaidLaws
import Derived.SevenTiedAt
open List
set_option linter.unusedSimpArgs false
set_option linter.unusedVariables false
set_option linter.unusedSectionVars false
set_option maxRecDepth 100000
set_option maxHeartbeats 16000000
namespace Go.Proofs.YtgbjlnijjonidaaDoor
open Go.ChangeShapes Go.WideShapes Go.ChangeAt Go.RowKit Go.Av
theorem own:ownKnob Tryd.prog.godebug=none:=by kernel_rfl
theorem zK:laidOutB Tryd.prog=true:=by kernel_rfl
def lst:List (String × DataW Unit):=[("math/bits.deBruijn32tab",Rows.laid_math_bits_deBruijn32tab),("math/bits.deBruijn64tab",Rows.laid_math_bits_deBruijn64tab),("internal/strconv.uint64pow10",Rows.laid_internal_strconv_uint64pow10)]
def DR:List Int:=[1,10,100,1000,10000,100000,1000000,10000000,100000000,1000000000,10000000000,100000000000,1000000000000,10000000000000,100000000000000,1000000000000000,10000000000000000,100000000000000000,1000000000000000000,10000000000000000000]
theorem yT {W:World} (k:IntKind) (b:Nat):∀ (l:List Int) (o:Nat),(∀ i,i < l.length->W.cell? ⟨b,o+i,none⟩=some (.int k (l.getD i 0)))->cZ (fun b _=>b < W.heap.size) W (l.map (AV.int k)) b o
 | [],_,_=>by simp [cZ]
 | x :: l,o,h=>by
  have h0:=h 0 (by simp);simp only[Nat.add_zero] at h0;refine⟨⟨World.block_lt_of_cell? W _ h0,_,h0,rfl⟩,yT k b l (o+1) fun i hi=>?_⟩
  have:=h (i+1) (by simp;omega)
  rw[show o+1+i=o+(i+1) by omega];simpa using this
theorem SJ {W:World} (h:laidMetH Tryd.prog lst W):nO (fun b _=>b < W.heap.size) W:=by
 rw[MakeChecks.laidMetH_plain _ _ _ (by kernel_rfl)] at h;have hg:Tryd.prog.globalNamed "internal/strconv.uint64pow10"=some 1:=by kernel_rfl
 have hT:Lib.TabIs Tryd.prog W "internal/strconv.uint64pow10" .u64 DR:=Lib.tabIs_of_head (t:=108) (e:=102) (n:=20) (rest:=[]) hg (by kernel_rfl) Tryd.underlying108 Tryd.underlying102 (by kernel_rfl) (by kernel_rfl) (laidMet.tail (laidMet.tail h));intro i k l hl;have hi:i=1/\k=.u64/\l=DR:=by
  unfold Gtab.tab seatTabs at hl;simp only at hl
  split at hl
  ·cases hl;exact⟨rfl,rfl,rfl⟩
  ·cases hl
 obtain⟨rfl,rfl,rfl⟩:=hi;exact yT .u64 1 DR 0 fun i hi=>by rw[Nat.zero_add];exact hT.cell hg i hi
theorem vU (os:Os) (args:Array Value):laidMetH Tryd.prog lst ((World.doorLaid Tryd.prog 400 os).forCall (fun _ _=>0) ⟨#[],args,[]⟩).memory:=
 laidMetH_of_parts3 (fuel:=8) (laidMet_of_run' 8 (by kernel_rfl) (by kernel_rfl)) (by kernel_rfl) (by kernel_rfl)
end Go.Proofs.YtgbjlnijjonidaaDoor
