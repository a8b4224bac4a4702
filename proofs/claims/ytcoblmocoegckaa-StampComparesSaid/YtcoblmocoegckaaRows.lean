/-
  No cell of these rows narrows 'for every input' (looked for: loops, veiled, ifaces, maps, wideKeys, modest, calm, conditions, laid).
  DERIVED. THE GIVEN ROWS OF THIS SEAT. 5 by the template 'for every input the law returns true; each argument reads behind the call as it read before'; 0 by the template 'total and deterministic' (their statements: YtcoblmocoegckaaTotals.lean).
  GIVEN WITH THE SEED: the statements are not yours to turn. If you find one false, say at which input.
  Laid BY PROGRAM, IN A SANDBOX (cutbox-rows.mjs): the forced cells as the released guide's own fill.sh prints them over the translation a9016787e03a0c1c… (all of the seat's roots in one cut). By AI agents, Wed Nov 11 2026. No macro, syntax, notation, axiom, sorry.
-/
import Derived.Test.YtcoblmocoegckaaChecked
import GoSem.Claim
import GoSem.ClaimJoined
import GoSem.ClaimMapViews
import Derived.JoinedTies
import Derived.KernelRfl
namespace Go.Proofs.Ytcoblmocoegckaa
/- THE CELL 'sum', in the pinned program and in every row, IS THE sha256 OF THE DUMP (.gsa) THAT YtcoblmocoegckaaProg.lean LOADS. Nothing in Lean hashes anything: it is a label: what it is worth is what the hold of that sum in a sandbox is worth. -/
noncomputable def Try.pinned : Pinned := { name := "ytcoblmocoegckaa", sum := "a9016787e03a0c1cdd662c370d78869da6c26b28da572668b71aa61d631d6c3b", checked := Try.checked }
namespace Rows
def none {H : Type} : Left H := { results := [], args := [] }

/-- 'bitextlaw36.StampCompares': WHATEVER THE INPUT: true; the input reads as it did. -/
def stampComparesSpec : ChangeSpec := { name := "stampCompares", fn := fun _ => fun
  | [d1, d2, d3, d4] => { results := [.lit (.bool true)], args := [d1, d2, d3, d4] }
  | _ => none }
def stampComparesRow : OpenClaim := { program := "ytcoblmocoegckaa", sum := "a9016787e03a0c1cdd662c370d78869da6c26b28da572668b71aa61d631d6c3b", func := "bitext/bitextlaw36.StampCompares", spec := "stampCompares", apart := false }
def StampComparesSaid : Prop := stampComparesRow.holds Try.pinned (OpenSpec.ofChange stampComparesSpec)

/-- ITS FALSE NEIGHBOUR: 'it returns false'. Refute it at one input. -/
def stampComparesWrong : ChangeSpec := { name := "stampCompares", fn := fun _ => fun
  | [d1, d2, d3, d4] => { results := [.lit (.bool false)], args := [d1, d2, d3, d4] }
  | _ => none }
def StampComparesWrongFalsely : Prop := stampComparesRow.holds Try.pinned (OpenSpec.ofChange stampComparesWrong)

/-- 'bitextlaw36.StampValidates': WHATEVER THE INPUT: true; the input reads as it did. -/
def stampValidatesSpec : ChangeSpec := { name := "stampValidates", fn := fun _ => fun
  | [d1, d2] => { results := [.lit (.bool true)], args := [d1, d2] }
  | _ => none }
def stampValidatesRow : OpenClaim := { program := "ytcoblmocoegckaa", sum := "a9016787e03a0c1cdd662c370d78869da6c26b28da572668b71aa61d631d6c3b", func := "bitext/bitextlaw36.StampValidates", spec := "stampValidates", apart := false }
def StampValidatesSaid : Prop := stampValidatesRow.holds Try.pinned (OpenSpec.ofChange stampValidatesSpec)

/-- ITS FALSE NEIGHBOUR: 'it returns false'. Refute it at one input. -/
def stampValidatesWrong : ChangeSpec := { name := "stampValidates", fn := fun _ => fun
  | [d1, d2] => { results := [.lit (.bool false)], args := [d1, d2] }
  | _ => none }
def StampValidatesWrongFalsely : Prop := stampValidatesRow.holds Try.pinned (OpenSpec.ofChange stampValidatesWrong)

/-- 'bitextlaw36.StampVectors': WHATEVER THE INPUT: true; the input reads as it did. -/
def stampVectorsSpec : ChangeSpec := { name := "stampVectors", fn := fun _ => fun
  | [d1, d2, d3, d4, d5] => { results := [.lit (.bool true)], args := [d1, d2, d3, d4, d5] }
  | _ => none }
def stampVectorsRow : OpenClaim := { program := "ytcoblmocoegckaa", sum := "a9016787e03a0c1cdd662c370d78869da6c26b28da572668b71aa61d631d6c3b", func := "bitext/bitextlaw36.StampVectors", spec := "stampVectors", apart := false }
def StampVectorsSaid : Prop := stampVectorsRow.holds Try.pinned (OpenSpec.ofChange stampVectorsSpec)

/-- ITS FALSE NEIGHBOUR: 'it returns false'. Refute it at one input. -/
def stampVectorsWrong : ChangeSpec := { name := "stampVectors", fn := fun _ => fun
  | [d1, d2, d3, d4, d5] => { results := [.lit (.bool false)], args := [d1, d2, d3, d4, d5] }
  | _ => none }
def StampVectorsWrongFalsely : Prop := stampVectorsRow.holds Try.pinned (OpenSpec.ofChange stampVectorsWrong)

/-- 'bitextlaw36.StampJoins': WHATEVER THE INPUT: true; the input reads as it did. -/
def stampJoinsSpec : ChangeSpec := { name := "stampJoins", fn := fun _ => fun
  | [d] => { results := [.lit (.bool true)], args := [d] }
  | _ => none }
def stampJoinsRow : OpenClaim := { program := "ytcoblmocoegckaa", sum := "a9016787e03a0c1cdd662c370d78869da6c26b28da572668b71aa61d631d6c3b", func := "bitext/bitextlaw36.StampJoins", spec := "stampJoins", apart := false }
def StampJoinsSaid : Prop := stampJoinsRow.holds Try.pinned (OpenSpec.ofChange stampJoinsSpec)

/-- ITS FALSE NEIGHBOUR: 'it returns false'. Refute it at one input. -/
def stampJoinsWrong : ChangeSpec := { name := "stampJoins", fn := fun _ => fun
  | [d] => { results := [.lit (.bool false)], args := [d] }
  | _ => none }
def StampJoinsWrongFalsely : Prop := stampJoinsRow.holds Try.pinned (OpenSpec.ofChange stampJoinsWrong)

/-- 'bitextlaw36.StampContains': WHATEVER THE INPUT: true; the input reads as it did. -/
def stampContainsSpec : ChangeSpec := { name := "stampContains", fn := fun _ => fun
  | [d] => { results := [.lit (.bool true)], args := [d] }
  | _ => none }
def stampContainsRow : OpenClaim := { program := "ytcoblmocoegckaa", sum := "a9016787e03a0c1cdd662c370d78869da6c26b28da572668b71aa61d631d6c3b", func := "bitext/bitextlaw36.StampContains", spec := "stampContains", apart := false }
def StampContainsSaid : Prop := stampContainsRow.holds Try.pinned (OpenSpec.ofChange stampContainsSpec)

/-- ITS FALSE NEIGHBOUR: 'it returns false'. Refute it at one input. -/
def stampContainsWrong : ChangeSpec := { name := "stampContains", fn := fun _ => fun
  | [d] => { results := [.lit (.bool false)], args := [d] }
  | _ => none }
def StampContainsWrongFalsely : Prop := stampContainsRow.holds Try.pinned (OpenSpec.ofChange stampContainsWrong)

/- THE SECOND FORM. 'bulk': how many values and letters a reading holds, each counted each time it is reached (what is shared counts as often as it is met; a slice's spare places count too). A statement '..UptoSaid' is the law's where the arguments, and the package variables that the reading takes, are together of bulk at most 1048576: NARROWER than '..Said'. Prove '..Said' where nothing that the law and all that it calls make is longer than what came in: it says more and counts as full. Else prove '..UptoSaid'. A law counts once. -/
mutual
def uptoBulk {H : Type} : DataW H → Nat
  | .lit (.string bytes) => bytes.length + 1
  | .lit _ => 1
  | .nil => 1
  | .ptr d => uptoBulk d + 1
  | .slice elems spare => uptoBulkAll elems + uptoBulkAll spare + 1
  | .agg parts => uptoBulkAll parts + 1
  | .iface _ d => uptoBulk d + 1
  | .map entries => uptoBulkEntries entries + 1
  | .held _ => 1
def uptoBulkAll {H : Type} : List (DataW H) → Nat
  | [] => 0
  | d :: r => uptoBulk d + uptoBulkAll r
def uptoBulkEntries {H : Type} : List (Lit × DataW H) → Nat
  | [] => 0
  | x :: r => uptoBulkEntry x + uptoBulkEntries r
def uptoBulkEntry {H : Type} : Lit × DataW H → Nat
  | (.string bytes, d) => bytes.length + uptoBulk d + 1
  | (_, d) => uptoBulk d + 1
 end
def uptoSmall : (H : Type) → List (DataW H) → Bool := fun _ ds => decide (uptoBulkAll ds ≤ 1048576)
def OpenSpec.upto (s : _root_.Go.ChangeSpec) : _root_.Go.OpenSpec := { _root_.Go.OpenSpec.ofChange s with cond := some uptoSmall }

/-- 'bitextlaw36.StampCompares', WHERE WHAT IT READS IS OF BULK AT MOST 1048576: true; the input reads as it did. -/
def stampComparesUptoRow : OpenClaim := { program := "ytcoblmocoegckaa", sum := "a9016787e03a0c1cdd662c370d78869da6c26b28da572668b71aa61d631d6c3b", func := "bitext/bitextlaw36.StampCompares", spec := "stampCompares", apart := false, narrowed := true }
def StampComparesUptoSaid : Prop := stampComparesUptoRow.holds Try.pinned (OpenSpec.upto stampComparesSpec)

/-- 'bitextlaw36.StampValidates', WHERE WHAT IT READS IS OF BULK AT MOST 1048576: true; the input reads as it did. -/
def stampValidatesUptoRow : OpenClaim := { program := "ytcoblmocoegckaa", sum := "a9016787e03a0c1cdd662c370d78869da6c26b28da572668b71aa61d631d6c3b", func := "bitext/bitextlaw36.StampValidates", spec := "stampValidates", apart := false, narrowed := true }
def StampValidatesUptoSaid : Prop := stampValidatesUptoRow.holds Try.pinned (OpenSpec.upto stampValidatesSpec)

/-- 'bitextlaw36.StampVectors', WHERE WHAT IT READS IS OF BULK AT MOST 1048576: true; the input reads as it did. -/
def stampVectorsUptoRow : OpenClaim := { program := "ytcoblmocoegckaa", sum := "a9016787e03a0c1cdd662c370d78869da6c26b28da572668b71aa61d631d6c3b", func := "bitext/bitextlaw36.StampVectors", spec := "stampVectors", apart := false, narrowed := true }
def StampVectorsUptoSaid : Prop := stampVectorsUptoRow.holds Try.pinned (OpenSpec.upto stampVectorsSpec)

/-- 'bitextlaw36.StampJoins', WHERE WHAT IT READS IS OF BULK AT MOST 1048576: true; the input reads as it did. -/
def stampJoinsUptoRow : OpenClaim := { program := "ytcoblmocoegckaa", sum := "a9016787e03a0c1cdd662c370d78869da6c26b28da572668b71aa61d631d6c3b", func := "bitext/bitextlaw36.StampJoins", spec := "stampJoins", apart := false, narrowed := true }
def StampJoinsUptoSaid : Prop := stampJoinsUptoRow.holds Try.pinned (OpenSpec.upto stampJoinsSpec)

/-- 'bitextlaw36.StampContains', WHERE WHAT IT READS IS OF BULK AT MOST 1048576: true; the input reads as it did. -/
def stampContainsUptoRow : OpenClaim := { program := "ytcoblmocoegckaa", sum := "a9016787e03a0c1cdd662c370d78869da6c26b28da572668b71aa61d631d6c3b", func := "bitext/bitextlaw36.StampContains", spec := "stampContains", apart := false, narrowed := true }
def StampContainsUptoSaid : Prop := stampContainsUptoRow.holds Try.pinned (OpenSpec.upto stampContainsSpec)

end Rows
end Go.Proofs.Ytcoblmocoegckaa
