/-  -/
import Derived.Test.YtgbjlnijjonidaaDoorG1Sa
import Derived.DeepKeys4
import Derived.KernelRfl
open List
set_option linter.unusedSimpArgs false
set_option linter.unusedVariables false
set_option linter.unusedSectionVars false
set_option maxRecDepth 100000
set_option maxHeartbeats 16000000
namespace Go.Av
open Go.Proofs Go.RowKit Go.Nt Go.Maps
set_option maxHeartbeats 4000000
theorem R7:laidOutB Tryd.prog=true:=by kernel_rfl
theorem P2:(match Tryd.prog.underlying 61 with | some (.array _ _) | some (.struct _)=>true | _=>false)=true:=by kernel_rfl
theorem QX:(61:TypeId) < Tryd.prog.types.size:=of_decide_eq_true (by kernel_rfl)
theorem NB:WideMaps.KeyLaw Tryd.prog 61:=deep_law_laid R7 (m:=2) (by omega) QX (by kernel_rfl) P2
theorem EN:Keyed Tryd.prog 61:=Keyed.of_law NB
theorem xV (w:World):(zeroValue 3).run Tryd.prog w=.ok (.int .i64 0) w:=by kernel_rfl
theorem FJ:Tryd.prog.cellsOf 61=3:=by kernel_rfl
theorem BS:∃ fs,Tryd.prog.underlying 61=some (.struct fs):=⟨_,Tryd.underlying61⟩
theorem WY:Tryd.prog.keyType 61=true:=by kernel_rfl
def klT (p:Int × List UInt8):Lit:=.string (keyBytes [.int .i64 p.1,.string p.2,.int .i64 0])
theorem tH (p:Int × List UInt8):WideAt.IsKeyLit (klT p):=trivial
theorem tJ (k:Int) (t:List UInt8) (hk:k=2\/k=3\/k=4) (ht:t.length<=1000000):keyOf Tryd.prog 61 (.agg #[.int .i64 k,.string ⟨t.toArray⟩,.int .i64 0])=some (klT (k,t)):=by
 obtain⟨fs,hu⟩:=BS;have hf:(Value.agg #[.int .i64 k,.string ⟨t.toArray⟩,.int .i64 0]).formed Tryd.prog 61=true:=by
  simp [Value.formed,hu,FJ]
 have hsz:(ByteArray.mk t.toArray).size<=maxLen:=by
  show t.toArray.size<=maxLen;simp [maxLen];omega
 unfold keyOf;rw[hu];simp only[WY,hf,Bool.and_self,if_true];obtain⟨m,hm⟩:∃ m,Tryd.prog.types.size+1=m+2:=⟨Tryd.prog.types.size - 1,by have h:(61:Nat) < Tryd.prog.types.size:=QX;omega⟩
 rw[hm];have hw:(Lit.int .i64 k).wf=true:=by rcases hk with h | h | h<;>subst h<;>decide
 have hw0:(Lit.int .i64 0).wf=true:=by decide
 have c3:Tryd.prog.cellsOf 3=1:=by kernel_rfl
 have c9:Tryd.prog.cellsOf 9=1:=by kernel_rfl
 unfold Program.keyLits;simp [Tryd.underlying61,FJ,Value.cells,c3,c9,Program.keyLits,Tryd.underlying3,Tryd.underlying9,hw,hw0,hsz,klT]
end Go.Av
