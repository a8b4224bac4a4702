/-
  No cell of these rows narrows 'for every input' (looked for: loops, veiled, ifaces, maps, wideKeys, modest, calm, conditions, laid).
  DERIVED. THE GIVEN ROWS OF THIS SEAT. 11 by the template 'for every input the law returns true; each argument reads behind the call as it read before'; 0 by the template 'total and deterministic' (their statements: YthbgidickbhojaaTotals.lean).
  GIVEN WITH THE SEED: the statements are not yours to turn. If you find one false, say at which input.
  Laid BY PROGRAM, IN A SANDBOX (cutbox-rows.mjs): the forced cells as the released guide's own fill.sh prints them over the translation 8013fe9427270713… (all of the seat's roots in one cut). By AI agents, Wed Nov 11 2026. No macro, syntax, notation, axiom, sorry.
-/
import Derived.Test.YthbgidickbhojaaChecked
import GoSem.Claim
import GoSem.ClaimJoined
import GoSem.ClaimMapViews
import Derived.JoinedTies
import Derived.KernelRfl
namespace Go.Proofs.Ythbgidickbhojaa
/- THE CELL 'sum', in the pinned program and in every row, IS THE sha256 OF THE DUMP (.gsa) THAT YthbgidickbhojaaProg.lean LOADS. Nothing in Lean hashes anything: it is a label: what it is worth is what the hold of that sum in a sandbox is worth. -/
noncomputable def Try.pinned : Pinned := { name := "ythbgidickbhojaa", sum := "8013fe9427270713b7b0fdc18fe1fb6547b2081671303184b70726186b109a0f", checked := Try.checked }
namespace Rows
def none {H : Type} : Left H := { results := [], args := [] }

/-- 'bitextlaw21.ConcordPhrases': WHATEVER THE INPUT: true; the input reads as it did. -/
def concordPhrasesSpec : ChangeSpec := { name := "concordPhrases", fn := fun _ => fun
  | [d1, d2] => { results := [.lit (.bool true)], args := [d1, d2] }
  | _ => none }
def concordPhrasesRow : OpenClaim := { program := "ythbgidickbhojaa", sum := "8013fe9427270713b7b0fdc18fe1fb6547b2081671303184b70726186b109a0f", func := "bitext/bitextlaw21.ConcordPhrases", spec := "concordPhrases", unfollowed := true, recurses := true, apart := false }
def ConcordPhrasesSaid : Prop := concordPhrasesRow.holds Try.pinned (OpenSpec.ofChange concordPhrasesSpec)

/-- ITS FALSE NEIGHBOUR: 'it returns false'. Refute it at one input. -/
def concordPhrasesWrong : ChangeSpec := { name := "concordPhrases", fn := fun _ => fun
  | [d1, d2] => { results := [.lit (.bool false)], args := [d1, d2] }
  | _ => none }
def ConcordPhrasesWrongFalsely : Prop := concordPhrasesRow.holds Try.pinned (OpenSpec.ofChange concordPhrasesWrong)

/-- 'bitextlaw21.ConcordOccurs': WHATEVER THE INPUT: true; the input reads as it did. -/
def concordOccursSpec : ChangeSpec := { name := "concordOccurs", fn := fun _ => fun
  | [d1, d2, d3, d4] => { results := [.lit (.bool true)], args := [d1, d2, d3, d4] }
  | _ => none }
def concordOccursRow : OpenClaim := { program := "ythbgidickbhojaa", sum := "8013fe9427270713b7b0fdc18fe1fb6547b2081671303184b70726186b109a0f", func := "bitext/bitextlaw21.ConcordOccurs", spec := "concordOccurs", unfollowed := true, recurses := true, apart := false }
def ConcordOccursSaid : Prop := concordOccursRow.holds Try.pinned (OpenSpec.ofChange concordOccursSpec)

/-- ITS FALSE NEIGHBOUR: 'it returns false'. Refute it at one input. -/
def concordOccursWrong : ChangeSpec := { name := "concordOccurs", fn := fun _ => fun
  | [d1, d2, d3, d4] => { results := [.lit (.bool false)], args := [d1, d2, d3, d4] }
  | _ => none }
def ConcordOccursWrongFalsely : Prop := concordOccursRow.holds Try.pinned (OpenSpec.ofChange concordOccursWrong)

/-- 'bitextlaw21.ConcordParts': WHATEVER THE INPUT: true; the input reads as it did. -/
def concordPartsSpec : ChangeSpec := { name := "concordParts", fn := fun _ => fun
  | [d1, d2, d3] => { results := [.lit (.bool true)], args := [d1, d2, d3] }
  | _ => none }
def concordPartsRow : OpenClaim := { program := "ythbgidickbhojaa", sum := "8013fe9427270713b7b0fdc18fe1fb6547b2081671303184b70726186b109a0f", func := "bitext/bitextlaw21.ConcordParts", spec := "concordParts", unfollowed := true, recurses := true, apart := false }
def ConcordPartsSaid : Prop := concordPartsRow.holds Try.pinned (OpenSpec.ofChange concordPartsSpec)

/-- ITS FALSE NEIGHBOUR: 'it returns false'. Refute it at one input. -/
def concordPartsWrong : ChangeSpec := { name := "concordParts", fn := fun _ => fun
  | [d1, d2, d3] => { results := [.lit (.bool false)], args := [d1, d2, d3] }
  | _ => none }
def ConcordPartsWrongFalsely : Prop := concordPartsRow.holds Try.pinned (OpenSpec.ofChange concordPartsWrong)

/-- 'bitextlaw21.ConcordNarrows': WHATEVER THE INPUT: true; the input reads as it did. -/
def concordNarrowsSpec : ChangeSpec := { name := "concordNarrows", fn := fun _ => fun
  | [d1, d2, d3] => { results := [.lit (.bool true)], args := [d1, d2, d3] }
  | _ => none }
def concordNarrowsRow : OpenClaim := { program := "ythbgidickbhojaa", sum := "8013fe9427270713b7b0fdc18fe1fb6547b2081671303184b70726186b109a0f", func := "bitext/bitextlaw21.ConcordNarrows", spec := "concordNarrows", unfollowed := true, recurses := true, apart := false }
def ConcordNarrowsSaid : Prop := concordNarrowsRow.holds Try.pinned (OpenSpec.ofChange concordNarrowsSpec)

/-- ITS FALSE NEIGHBOUR: 'it returns false'. Refute it at one input. -/
def concordNarrowsWrong : ChangeSpec := { name := "concordNarrows", fn := fun _ => fun
  | [d1, d2, d3] => { results := [.lit (.bool false)], args := [d1, d2, d3] }
  | _ => none }
def ConcordNarrowsWrongFalsely : Prop := concordNarrowsRow.holds Try.pinned (OpenSpec.ofChange concordNarrowsWrong)

/-- 'bitextlaw29.LockLimits': WHATEVER THE INPUT: true; the input reads as it did. -/
def lockLimitsSpec : ChangeSpec := { name := "lockLimits", fn := fun _ => fun
  | [d1, d2, d3, d4] => { results := [.lit (.bool true)], args := [d1, d2, d3, d4] }
  | _ => none }
def lockLimitsRow : OpenClaim := { program := "ythbgidickbhojaa", sum := "8013fe9427270713b7b0fdc18fe1fb6547b2081671303184b70726186b109a0f", func := "bitext/bitextlaw29.LockLimits", spec := "lockLimits", inPlace := ["slices.overlaps[bitext/api.Lease]"], unfollowed := true, recurses := true, apart := false }
def LockLimitsSaid : Prop := lockLimitsRow.holds Try.pinned (OpenSpec.ofChange lockLimitsSpec)

/-- ITS FALSE NEIGHBOUR: 'it returns false'. Refute it at one input. -/
def lockLimitsWrong : ChangeSpec := { name := "lockLimits", fn := fun _ => fun
  | [d1, d2, d3, d4] => { results := [.lit (.bool false)], args := [d1, d2, d3, d4] }
  | _ => none }
def LockLimitsWrongFalsely : Prop := lockLimitsRow.holds Try.pinned (OpenSpec.ofChange lockLimitsWrong)

/-- 'bitextlaw29.LockValidates': WHATEVER THE INPUT: true; the input reads as it did. -/
def lockValidatesSpec : ChangeSpec := { name := "lockValidates", fn := fun _ => fun
  | [d1, d2, d3, d4] => { results := [.lit (.bool true)], args := [d1, d2, d3, d4] }
  | _ => none }
def lockValidatesRow : OpenClaim := { program := "ythbgidickbhojaa", sum := "8013fe9427270713b7b0fdc18fe1fb6547b2081671303184b70726186b109a0f", func := "bitext/bitextlaw29.LockValidates", spec := "lockValidates", inPlace := ["slices.overlaps[bitext/api.Lease]"], unfollowed := true, recurses := true, apart := false }
def LockValidatesSaid : Prop := lockValidatesRow.holds Try.pinned (OpenSpec.ofChange lockValidatesSpec)

/-- ITS FALSE NEIGHBOUR: 'it returns false'. Refute it at one input. -/
def lockValidatesWrong : ChangeSpec := { name := "lockValidates", fn := fun _ => fun
  | [d1, d2, d3, d4] => { results := [.lit (.bool false)], args := [d1, d2, d3, d4] }
  | _ => none }
def LockValidatesWrongFalsely : Prop := lockValidatesRow.holds Try.pinned (OpenSpec.ofChange lockValidatesWrong)

/-- 'bitextlaw29.LockHolds': WHATEVER THE INPUT: true; the input reads as it did. -/
def lockHoldsSpec : ChangeSpec := { name := "lockHolds", fn := fun _ => fun
  | [d1, d2, d3, d4] => { results := [.lit (.bool true)], args := [d1, d2, d3, d4] }
  | _ => none }
def lockHoldsRow : OpenClaim := { program := "ythbgidickbhojaa", sum := "8013fe9427270713b7b0fdc18fe1fb6547b2081671303184b70726186b109a0f", func := "bitext/bitextlaw29.LockHolds", spec := "lockHolds", inPlace := ["slices.overlaps[bitext/api.Lease]"], unfollowed := true, recurses := true, apart := false }
def LockHoldsSaid : Prop := lockHoldsRow.holds Try.pinned (OpenSpec.ofChange lockHoldsSpec)

/-- ITS FALSE NEIGHBOUR: 'it returns false'. Refute it at one input. -/
def lockHoldsWrong : ChangeSpec := { name := "lockHolds", fn := fun _ => fun
  | [d1, d2, d3, d4] => { results := [.lit (.bool false)], args := [d1, d2, d3, d4] }
  | _ => none }
def LockHoldsWrongFalsely : Prop := lockHoldsRow.holds Try.pinned (OpenSpec.ofChange lockHoldsWrong)

/-- 'bitextlaw29.LockAcquires': WHATEVER THE INPUT: true; the input reads as it did. -/
def lockAcquiresSpec : ChangeSpec := { name := "lockAcquires", fn := fun _ => fun
  | [d1, d2, d3, d4, d5, d6] => { results := [.lit (.bool true)], args := [d1, d2, d3, d4, d5, d6] }
  | _ => none }
def lockAcquiresRow : OpenClaim := { program := "ythbgidickbhojaa", sum := "8013fe9427270713b7b0fdc18fe1fb6547b2081671303184b70726186b109a0f", func := "bitext/bitextlaw29.LockAcquires", spec := "lockAcquires", inPlace := ["slices.overlaps[bitext/api.Lease]"], unfollowed := true, recurses := true, apart := false }
def LockAcquiresSaid : Prop := lockAcquiresRow.holds Try.pinned (OpenSpec.ofChange lockAcquiresSpec)

/-- ITS FALSE NEIGHBOUR: 'it returns false'. Refute it at one input. -/
def lockAcquiresWrong : ChangeSpec := { name := "lockAcquires", fn := fun _ => fun
  | [d1, d2, d3, d4, d5, d6] => { results := [.lit (.bool false)], args := [d1, d2, d3, d4, d5, d6] }
  | _ => none }
def LockAcquiresWrongFalsely : Prop := lockAcquiresRow.holds Try.pinned (OpenSpec.ofChange lockAcquiresWrong)

/-- 'bitextlaw29.LockExcludes': WHATEVER THE INPUT: true; the input reads as it did. -/
def lockExcludesSpec : ChangeSpec := { name := "lockExcludes", fn := fun _ => fun
  | [d1, d2] => { results := [.lit (.bool true)], args := [d1, d2] }
  | _ => none }
def lockExcludesRow : OpenClaim := { program := "ythbgidickbhojaa", sum := "8013fe9427270713b7b0fdc18fe1fb6547b2081671303184b70726186b109a0f", func := "bitext/bitextlaw29.LockExcludes", spec := "lockExcludes", inPlace := ["slices.overlaps[bitext/api.Lease]"], unfollowed := true, recurses := true, apart := false }
def LockExcludesSaid : Prop := lockExcludesRow.holds Try.pinned (OpenSpec.ofChange lockExcludesSpec)

/-- ITS FALSE NEIGHBOUR: 'it returns false'. Refute it at one input. -/
def lockExcludesWrong : ChangeSpec := { name := "lockExcludes", fn := fun _ => fun
  | [d1, d2] => { results := [.lit (.bool false)], args := [d1, d2] }
  | _ => none }
def LockExcludesWrongFalsely : Prop := lockExcludesRow.holds Try.pinned (OpenSpec.ofChange lockExcludesWrong)

/-- 'bitextlaw29.LockExpires': WHATEVER THE INPUT: true; the input reads as it did. -/
def lockExpiresSpec : ChangeSpec := { name := "lockExpires", fn := fun _ => fun
  | [d1, d2, d3, d4] => { results := [.lit (.bool true)], args := [d1, d2, d3, d4] }
  | _ => none }
def lockExpiresRow : OpenClaim := { program := "ythbgidickbhojaa", sum := "8013fe9427270713b7b0fdc18fe1fb6547b2081671303184b70726186b109a0f", func := "bitext/bitextlaw29.LockExpires", spec := "lockExpires", inPlace := ["slices.overlaps[bitext/api.Lease]"], unfollowed := true, recurses := true, apart := false }
def LockExpiresSaid : Prop := lockExpiresRow.holds Try.pinned (OpenSpec.ofChange lockExpiresSpec)

/-- ITS FALSE NEIGHBOUR: 'it returns false'. Refute it at one input. -/
def lockExpiresWrong : ChangeSpec := { name := "lockExpires", fn := fun _ => fun
  | [d1, d2, d3, d4] => { results := [.lit (.bool false)], args := [d1, d2, d3, d4] }
  | _ => none }
def LockExpiresWrongFalsely : Prop := lockExpiresRow.holds Try.pinned (OpenSpec.ofChange lockExpiresWrong)

/-- 'bitextlaw29.LockReleases': WHATEVER THE INPUT: true; the input reads as it did. -/
def lockReleasesSpec : ChangeSpec := { name := "lockReleases", fn := fun _ => fun
  | [d1, d2, d3, d4, d5] => { results := [.lit (.bool true)], args := [d1, d2, d3, d4, d5] }
  | _ => none }
def lockReleasesRow : OpenClaim := { program := "ythbgidickbhojaa", sum := "8013fe9427270713b7b0fdc18fe1fb6547b2081671303184b70726186b109a0f", func := "bitext/bitextlaw29.LockReleases", spec := "lockReleases", inPlace := ["slices.overlaps[bitext/api.Lease]"], unfollowed := true, recurses := true, apart := false }
def LockReleasesSaid : Prop := lockReleasesRow.holds Try.pinned (OpenSpec.ofChange lockReleasesSpec)

/-- ITS FALSE NEIGHBOUR: 'it returns false'. Refute it at one input. -/
def lockReleasesWrong : ChangeSpec := { name := "lockReleases", fn := fun _ => fun
  | [d1, d2, d3, d4, d5] => { results := [.lit (.bool false)], args := [d1, d2, d3, d4, d5] }
  | _ => none }
def LockReleasesWrongFalsely : Prop := lockReleasesRow.holds Try.pinned (OpenSpec.ofChange lockReleasesWrong)

/- THE SECOND FORM. 'bulk': how many values and letters a reading holds, each counted each time it is reached (what is shared counts as often as it is met; a slice's spare places count too). A statement '..UptoSaid' is the law's where the arguments, and the package variables that the reading takes, are together of bulk at most 1048576: NARROWER than '..Said'. Prove '..Said' where nothing that the law and all that it calls make is longer than what came in: it says more and counts as full. Else prove '..UptoSaid'. A law counts once. -/
mutual
def uptoBulk {H : Type} : DataW H → Nat
  | .lit (.string bytes) => bytes.length + 1
  | .lit _ => 1
  | .nil => 1
  | .ptr d => uptoBulk d + 1
  | .slice elems spare => uptoBulkAll elems + uptoBulkAll spare + 1
  | .agg parts => uptoBulkAll parts + 1
  | .iface _ d => uptoBulk d + 1
  | .map entries => uptoBulkEntries entries + 1
  | .held _ => 1
def uptoBulkAll {H : Type} : List (DataW H) → Nat
  | [] => 0
  | d :: r => uptoBulk d + uptoBulkAll r
def uptoBulkEntries {H : Type} : List (Lit × DataW H) → Nat
  | [] => 0
  | x :: r => uptoBulkEntry x + uptoBulkEntries r
def uptoBulkEntry {H : Type} : Lit × DataW H → Nat
  | (.string bytes, d) => bytes.length + uptoBulk d + 1
  | (_, d) => uptoBulk d + 1
 end
def uptoSmall : (H : Type) → List (DataW H) → Bool := fun _ ds => decide (uptoBulkAll ds ≤ 1048576)
def OpenSpec.upto (s : _root_.Go.ChangeSpec) : _root_.Go.OpenSpec := { _root_.Go.OpenSpec.ofChange s with cond := some uptoSmall }

/-- 'bitextlaw21.ConcordPhrases', WHERE WHAT IT READS IS OF BULK AT MOST 1048576: true; the input reads as it did. -/
def concordPhrasesUptoRow : OpenClaim := { program := "ythbgidickbhojaa", sum := "8013fe9427270713b7b0fdc18fe1fb6547b2081671303184b70726186b109a0f", func := "bitext/bitextlaw21.ConcordPhrases", spec := "concordPhrases", unfollowed := true, recurses := true, apart := false, narrowed := true }
def ConcordPhrasesUptoSaid : Prop := concordPhrasesUptoRow.holds Try.pinned (OpenSpec.upto concordPhrasesSpec)

/-- 'bitextlaw21.ConcordOccurs', WHERE WHAT IT READS IS OF BULK AT MOST 1048576: true; the input reads as it did. -/
def concordOccursUptoRow : OpenClaim := { program := "ythbgidickbhojaa", sum := "8013fe9427270713b7b0fdc18fe1fb6547b2081671303184b70726186b109a0f", func := "bitext/bitextlaw21.ConcordOccurs", spec := "concordOccurs", unfollowed := true, recurses := true, apart := false, narrowed := true }
def ConcordOccursUptoSaid : Prop := concordOccursUptoRow.holds Try.pinned (OpenSpec.upto concordOccursSpec)

/-- 'bitextlaw21.ConcordParts', WHERE WHAT IT READS IS OF BULK AT MOST 1048576: true; the input reads as it did. -/
def concordPartsUptoRow : OpenClaim := { program := "ythbgidickbhojaa", sum := "8013fe9427270713b7b0fdc18fe1fb6547b2081671303184b70726186b109a0f", func := "bitext/bitextlaw21.ConcordParts", spec := "concordParts", unfollowed := true, recurses := true, apart := false, narrowed := true }
def ConcordPartsUptoSaid : Prop := concordPartsUptoRow.holds Try.pinned (OpenSpec.upto concordPartsSpec)

/-- 'bitextlaw21.ConcordNarrows', WHERE WHAT IT READS IS OF BULK AT MOST 1048576: true; the input reads as it did. -/
def concordNarrowsUptoRow : OpenClaim := { program := "ythbgidickbhojaa", sum := "8013fe9427270713b7b0fdc18fe1fb6547b2081671303184b70726186b109a0f", func := "bitext/bitextlaw21.ConcordNarrows", spec := "concordNarrows", unfollowed := true, recurses := true, apart := false, narrowed := true }
def ConcordNarrowsUptoSaid : Prop := concordNarrowsUptoRow.holds Try.pinned (OpenSpec.upto concordNarrowsSpec)

/-- 'bitextlaw29.LockLimits', WHERE WHAT IT READS IS OF BULK AT MOST 1048576: true; the input reads as it did. -/
def lockLimitsUptoRow : OpenClaim := { program := "ythbgidickbhojaa", sum := "8013fe9427270713b7b0fdc18fe1fb6547b2081671303184b70726186b109a0f", func := "bitext/bitextlaw29.LockLimits", spec := "lockLimits", inPlace := ["slices.overlaps[bitext/api.Lease]"], unfollowed := true, recurses := true, apart := false, narrowed := true }
def LockLimitsUptoSaid : Prop := lockLimitsUptoRow.holds Try.pinned (OpenSpec.upto lockLimitsSpec)

/-- 'bitextlaw29.LockValidates', WHERE WHAT IT READS IS OF BULK AT MOST 1048576: true; the input reads as it did. -/
def lockValidatesUptoRow : OpenClaim := { program := "ythbgidickbhojaa", sum := "8013fe9427270713b7b0fdc18fe1fb6547b2081671303184b70726186b109a0f", func := "bitext/bitextlaw29.LockValidates", spec := "lockValidates", inPlace := ["slices.overlaps[bitext/api.Lease]"], unfollowed := true, recurses := true, apart := false, narrowed := true }
def LockValidatesUptoSaid : Prop := lockValidatesUptoRow.holds Try.pinned (OpenSpec.upto lockValidatesSpec)

/-- 'bitextlaw29.LockHolds', WHERE WHAT IT READS IS OF BULK AT MOST 1048576: true; the input reads as it did. -/
def lockHoldsUptoRow : OpenClaim := { program := "ythbgidickbhojaa", sum := "8013fe9427270713b7b0fdc18fe1fb6547b2081671303184b70726186b109a0f", func := "bitext/bitextlaw29.LockHolds", spec := "lockHolds", inPlace := ["slices.overlaps[bitext/api.Lease]"], unfollowed := true, recurses := true, apart := false, narrowed := true }
def LockHoldsUptoSaid : Prop := lockHoldsUptoRow.holds Try.pinned (OpenSpec.upto lockHoldsSpec)

/-- 'bitextlaw29.LockAcquires', WHERE WHAT IT READS IS OF BULK AT MOST 1048576: true; the input reads as it did. -/
def lockAcquiresUptoRow : OpenClaim := { program := "ythbgidickbhojaa", sum := "8013fe9427270713b7b0fdc18fe1fb6547b2081671303184b70726186b109a0f", func := "bitext/bitextlaw29.LockAcquires", spec := "lockAcquires", inPlace := ["slices.overlaps[bitext/api.Lease]"], unfollowed := true, recurses := true, apart := false, narrowed := true }
def LockAcquiresUptoSaid : Prop := lockAcquiresUptoRow.holds Try.pinned (OpenSpec.upto lockAcquiresSpec)

/-- 'bitextlaw29.LockExcludes', WHERE WHAT IT READS IS OF BULK AT MOST 1048576: true; the input reads as it did. -/
def lockExcludesUptoRow : OpenClaim := { program := "ythbgidickbhojaa", sum := "8013fe9427270713b7b0fdc18fe1fb6547b2081671303184b70726186b109a0f", func := "bitext/bitextlaw29.LockExcludes", spec := "lockExcludes", inPlace := ["slices.overlaps[bitext/api.Lease]"], unfollowed := true, recurses := true, apart := false, narrowed := true }
def LockExcludesUptoSaid : Prop := lockExcludesUptoRow.holds Try.pinned (OpenSpec.upto lockExcludesSpec)

/-- 'bitextlaw29.LockExpires', WHERE WHAT IT READS IS OF BULK AT MOST 1048576: true; the input reads as it did. -/
def lockExpiresUptoRow : OpenClaim := { program := "ythbgidickbhojaa", sum := "8013fe9427270713b7b0fdc18fe1fb6547b2081671303184b70726186b109a0f", func := "bitext/bitextlaw29.LockExpires", spec := "lockExpires", inPlace := ["slices.overlaps[bitext/api.Lease]"], unfollowed := true, recurses := true, apart := false, narrowed := true }
def LockExpiresUptoSaid : Prop := lockExpiresUptoRow.holds Try.pinned (OpenSpec.upto lockExpiresSpec)

/-- 'bitextlaw29.LockReleases', WHERE WHAT IT READS IS OF BULK AT MOST 1048576: true; the input reads as it did. -/
def lockReleasesUptoRow : OpenClaim := { program := "ythbgidickbhojaa", sum := "8013fe9427270713b7b0fdc18fe1fb6547b2081671303184b70726186b109a0f", func := "bitext/bitextlaw29.LockReleases", spec := "lockReleases", inPlace := ["slices.overlaps[bitext/api.Lease]"], unfollowed := true, recurses := true, apart := false, narrowed := true }
def LockReleasesUptoSaid : Prop := lockReleasesUptoRow.holds Try.pinned (OpenSpec.upto lockReleasesSpec)

end Rows
end Go.Proofs.Ythbgidickbhojaa
