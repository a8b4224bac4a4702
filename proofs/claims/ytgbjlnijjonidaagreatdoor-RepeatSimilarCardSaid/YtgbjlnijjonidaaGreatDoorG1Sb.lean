/-  -/
import Derived.Test.YtgbjlnijjonidaaGreatDoorG1Sa
import Derived.DeepKeys4
import Derived.KernelRfl
open List
set_option linter.unusedSimpArgs false
set_option linter.unusedVariables false
set_option linter.unusedSectionVars false
set_option maxRecDepth 100000
set_option maxHeartbeats 16000000
namespace Go.Av
open Go.Proofs Go.RowKit Go.Nt Go.Maps
set_option maxHeartbeats 4000000
theorem PS:laidOutB Tryz.prog=true:=by kernel_rfl
theorem N0:(match Tryz.prog.underlying 67 with | some (.array _ _) | some (.struct _)=>true | _=>false)=true:=by kernel_rfl
theorem OR:(67:TypeId) < Tryz.prog.types.size:=of_decide_eq_true (by kernel_rfl)
theorem K6:WideMaps.KeyLaw Tryz.prog 67:=deep_law_laid PS (m:=2) (by omega) OR (by kernel_rfl) N0
theorem CW:Keyed Tryz.prog 67:=Keyed.of_law K6
theorem wR (w:World):(zeroValue 3).run Tryz.prog w=.ok (.int .i64 0) w:=by kernel_rfl
theorem DO:Tryz.prog.cellsOf 67=3:=by kernel_rfl
theorem AC:∃ fs,Tryz.prog.underlying 67=some (.struct fs):=⟨_,Tryz.underlying67⟩
theorem UU:Tryz.prog.keyType 67=true:=by kernel_rfl
def klT (p:Int × List UInt8):Lit:=.string (keyBytes [.int .i64 p.1,.string p.2,.int .i64 0])
theorem sS (p:Int × List UInt8):WideAt.IsKeyLit (klT p):=trivial
theorem sU (k:Int) (t:List UInt8) (hk:k=2\/k=3\/k=4) (ht:t.length<=1000000):keyOf Tryz.prog 67 (.agg #[.int .i64 k,.string ⟨t.toArray⟩,.int .i64 0])=some (klT (k,t)):=by
 obtain⟨fs,hu⟩:=AC;have hf:(Value.agg #[.int .i64 k,.string ⟨t.toArray⟩,.int .i64 0]).formed Tryz.prog 67=true:=by
  simp [Value.formed,hu,DO]
 have hsz:(ByteArray.mk t.toArray).size<=maxLen:=by
  show t.toArray.size<=maxLen;simp [maxLen];omega
 unfold keyOf;rw[hu];simp only[UU,hf,Bool.and_self,if_true];obtain⟨m,hm⟩:∃ m,Tryz.prog.types.size+1=m+2:=⟨Tryz.prog.types.size - 1,by have h:(67:Nat) < Tryz.prog.types.size:=OR;omega⟩
 rw[hm];have hw:(Lit.int .i64 k).wf=true:=by rcases hk with h | h | h<;>subst h<;>decide
 have hw0:(Lit.int .i64 0).wf=true:=by decide
 have c3:Tryz.prog.cellsOf 3=1:=by kernel_rfl
 have c9:Tryz.prog.cellsOf 9=1:=by kernel_rfl
 unfold Program.keyLits;simp [Tryz.underlying67,DO,Value.cells,c3,c9,Program.keyLits,Tryz.underlying3,Tryz.underlying9,hw,hw0,hsz,klT]
end Go.Av
