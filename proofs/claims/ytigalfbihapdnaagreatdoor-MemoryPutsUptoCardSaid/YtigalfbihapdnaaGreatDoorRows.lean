/-
  NARROWER THAN 'FOR EVERY INPUT', by the rows' own cells (each row's printed sentence says how): ConcordRefuses: laid · MemoryKeys: laid · MemoryExchanges: laid · MemoryPuts: laid · MemoryKeeps: laid · MemoryValidates: laid · MemoryOrder: laid · MemoryUnites: laid · MemoryGreater: laid · MemoryLimits: laid · ConcordSearches: laid.
  DERIVED. THE GIVEN ROWS OF THIS SEAT. 11 by the template 'for every input the law returns true; each argument reads behind the call as it read before'; 0 by the template 'total and deterministic' (their statements: YtigalfbihapdnaaGreatDoorTotals.lean).
  GIVEN WITH THE SEED: the statements are not yours to turn. If you find one false, say at which input.
  Laid BY PROGRAM, IN A SANDBOX (cutbox-rows.mjs): the forced cells as the released guide's own fill.sh prints them over the translation b6d0bb3a938ab42f… (all of the seat's roots in one cut). By AI agents, Wed Nov 11 2026. No macro, syntax, notation, axiom, sorry.
-/
import Derived.Test.YtigalfbihapdnaaGreatDoorChecked
import GoSem.Claim
import GoSem.ClaimJoined
import GoSem.ClaimMapViews
import Derived.JoinedTies
import Derived.KernelRfl
namespace Go.Proofs.YtigalfbihapdnaaGreatDoor
/- THE CELL 'sum', in the pinned program and in every row, IS THE sha256 OF THE DUMP (.gsa) THAT YtigalfbihapdnaaGreatDoorProg.lean LOADS. Nothing in Lean hashes anything: it is a label: what it is worth is what the hold of that sum in a sandbox is worth. -/
noncomputable def Tryz.pinned : Pinned := { name := "ytigalfbihapdnaagreatdoor", sum := "b6d0bb3a938ab42f456914d4d82f8d4cc7d986a33502c5b8b201162cc366ea9d", checked := Tryz.checked }
namespace Rows
def none {H : Type} : Left H := { results := [], args := [] }

/- WHAT THE LISTED PACKAGE-LEVEL VARIABLES READ AS WHEN THE CALL BEGINS. Each datum BY PROGRAM (the guide's laid-datum.mjs) off the statement by which the dump's own 'gosem.cut.vars' lays the variable. In a bare row this is a premise. The card (YtigalfbihapdnaaGreatDoorCards.lean) ties it to the program's text. -/
def laid_math_bits_deBruijn32tab {H : Type} : DataW H := .agg [.lit (.int .u8 0), .lit (.int .u8 1), .lit (.int .u8 28), .lit (.int .u8 2), .lit (.int .u8 29), .lit (.int .u8 14), .lit (.int .u8 24), .lit (.int .u8 3), .lit (.int .u8 30), .lit (.int .u8 22), .lit (.int .u8 20), .lit (.int .u8 15), .lit (.int .u8 25), .lit (.int .u8 17), .lit (.int .u8 4), .lit (.int .u8 8), .lit (.int .u8 31), .lit (.int .u8 27), .lit (.int .u8 13), .lit (.int .u8 23), .lit (.int .u8 21), .lit (.int .u8 19), .lit (.int .u8 16), .lit (.int .u8 7), .lit (.int .u8 26), .lit (.int .u8 12), .lit (.int .u8 18), .lit (.int .u8 6), .lit (.int .u8 11), .lit (.int .u8 5), .lit (.int .u8 10), .lit (.int .u8 9)]
def laid_math_bits_deBruijn64tab {H : Type} : DataW H := .agg [.lit (.int .u8 0), .lit (.int .u8 1), .lit (.int .u8 56), .lit (.int .u8 2), .lit (.int .u8 57), .lit (.int .u8 49), .lit (.int .u8 28), .lit (.int .u8 3), .lit (.int .u8 61), .lit (.int .u8 58), .lit (.int .u8 42), .lit (.int .u8 50), .lit (.int .u8 38), .lit (.int .u8 29), .lit (.int .u8 17), .lit (.int .u8 4), .lit (.int .u8 62), .lit (.int .u8 47), .lit (.int .u8 59), .lit (.int .u8 36), .lit (.int .u8 45), .lit (.int .u8 43), .lit (.int .u8 51), .lit (.int .u8 22), .lit (.int .u8 53), .lit (.int .u8 39), .lit (.int .u8 33), .lit (.int .u8 30), .lit (.int .u8 24), .lit (.int .u8 18), .lit (.int .u8 12), .lit (.int .u8 5), .lit (.int .u8 63), .lit (.int .u8 55), .lit (.int .u8 48), .lit (.int .u8 27), .lit (.int .u8 60), .lit (.int .u8 41), .lit (.int .u8 37), .lit (.int .u8 16), .lit (.int .u8 46), .lit (.int .u8 35), .lit (.int .u8 44), .lit (.int .u8 21), .lit (.int .u8 52), .lit (.int .u8 32), .lit (.int .u8 23), .lit (.int .u8 11), .lit (.int .u8 54), .lit (.int .u8 26), .lit (.int .u8 40), .lit (.int .u8 15), .lit (.int .u8 34), .lit (.int .u8 20), .lit (.int .u8 31), .lit (.int .u8 10), .lit (.int .u8 25), .lit (.int .u8 14), .lit (.int .u8 19), .lit (.int .u8 9), .lit (.int .u8 13), .lit (.int .u8 8), .lit (.int .u8 7), .lit (.int .u8 6)]
def laid_internal_strconv_uint64pow10 {H : Type} : DataW H := .agg [.lit (.int .u64 1), .lit (.int .u64 10), .lit (.int .u64 100), .lit (.int .u64 1000), .lit (.int .u64 10000), .lit (.int .u64 100000), .lit (.int .u64 1000000), .lit (.int .u64 10000000), .lit (.int .u64 100000000), .lit (.int .u64 1000000000), .lit (.int .u64 10000000000), .lit (.int .u64 100000000000), .lit (.int .u64 1000000000000), .lit (.int .u64 10000000000000), .lit (.int .u64 100000000000000), .lit (.int .u64 1000000000000000), .lit (.int .u64 10000000000000000), .lit (.int .u64 100000000000000000), .lit (.int .u64 1000000000000000000), .lit (.int .u64 10000000000000000000)]

/-- 'bitextlaw21.ConcordRefuses': WHATEVER THE INPUT: true; the input reads as it did. -/
def concordRefusesSpec : ChangeSpec := { name := "concordRefuses", fn := fun _ => fun
  | [d1, d2, d3] => { results := [.lit (.bool true)], args := [d1, d2, d3] }
  | _ => none }
def concordRefusesRow : OpenClaim := { program := "ytigalfbihapdnaagreatdoor", sum := "b6d0bb3a938ab42f456914d4d82f8d4cc7d986a33502c5b8b201162cc366ea9d", func := "bitext/bitextlaw21.ConcordRefuses", spec := "concordRefuses", inPlace := ["internal/bytealg.IndexByteString", "internal/bytealg.IndexString"], unfollowed := true, recurses := true, named := ["internal/bytealg.MaxLen", "internal/strconv.uint64pow10", "math/bits.deBruijn32tab", "math/bits.deBruijn64tab"], apart := false, laid := [("math/bits.deBruijn32tab", laid_math_bits_deBruijn32tab), ("math/bits.deBruijn64tab", laid_math_bits_deBruijn64tab), ("internal/strconv.uint64pow10", laid_internal_strconv_uint64pow10)] }
def ConcordRefusesSaid : Prop := concordRefusesRow.holds Tryz.pinned (OpenSpec.ofChange concordRefusesSpec)

/-- ITS FALSE NEIGHBOUR: 'it returns false'. Refute it at one input. -/
def concordRefusesWrong : ChangeSpec := { name := "concordRefuses", fn := fun _ => fun
  | [d1, d2, d3] => { results := [.lit (.bool false)], args := [d1, d2, d3] }
  | _ => none }
def ConcordRefusesWrongFalsely : Prop := concordRefusesRow.holds Tryz.pinned (OpenSpec.ofChange concordRefusesWrong)

/-- 'bitextlaw16.MemoryKeys': WHATEVER THE INPUT: true; the input reads as it did. -/
def memoryKeysSpec : ChangeSpec := { name := "memoryKeys", fn := fun _ => fun
  | [d1, d2, d3] => { results := [.lit (.bool true)], args := [d1, d2, d3] }
  | _ => none }
def memoryKeysRow : OpenClaim := { program := "ytigalfbihapdnaagreatdoor", sum := "b6d0bb3a938ab42f456914d4d82f8d4cc7d986a33502c5b8b201162cc366ea9d", func := "bitext/bitextlaw16.MemoryKeys", spec := "memoryKeys", inPlace := ["internal/bytealg.IndexByteString", "internal/bytealg.IndexString", "slices.overlaps[bitext/api.Entry]"], unfollowed := true, recurses := true, named := ["internal/bytealg.MaxLen", "internal/strconv.uint64pow10", "math/bits.deBruijn32tab", "math/bits.deBruijn64tab"], apart := false, laid := [("math/bits.deBruijn32tab", laid_math_bits_deBruijn32tab), ("math/bits.deBruijn64tab", laid_math_bits_deBruijn64tab), ("internal/strconv.uint64pow10", laid_internal_strconv_uint64pow10)] }
def MemoryKeysSaid : Prop := memoryKeysRow.holds Tryz.pinned (OpenSpec.ofChange memoryKeysSpec)

/-- ITS FALSE NEIGHBOUR: 'it returns false'. Refute it at one input. -/
def memoryKeysWrong : ChangeSpec := { name := "memoryKeys", fn := fun _ => fun
  | [d1, d2, d3] => { results := [.lit (.bool false)], args := [d1, d2, d3] }
  | _ => none }
def MemoryKeysWrongFalsely : Prop := memoryKeysRow.holds Tryz.pinned (OpenSpec.ofChange memoryKeysWrong)

/-- 'bitextlaw16.MemoryExchanges': WHATEVER THE INPUT: true; the input reads as it did. -/
def memoryExchangesSpec : ChangeSpec := { name := "memoryExchanges", fn := fun _ => fun
  | [d1, d2, d3] => { results := [.lit (.bool true)], args := [d1, d2, d3] }
  | _ => none }
def memoryExchangesRow : OpenClaim := { program := "ytigalfbihapdnaagreatdoor", sum := "b6d0bb3a938ab42f456914d4d82f8d4cc7d986a33502c5b8b201162cc366ea9d", func := "bitext/bitextlaw16.MemoryExchanges", spec := "memoryExchanges", inPlace := ["internal/bytealg.IndexByteString", "internal/bytealg.IndexString", "slices.overlaps[bitext/api.Entry]"], unfollowed := true, recurses := true, named := ["internal/bytealg.MaxLen", "internal/strconv.uint64pow10", "math/bits.deBruijn32tab", "math/bits.deBruijn64tab"], apart := false, laid := [("math/bits.deBruijn32tab", laid_math_bits_deBruijn32tab), ("math/bits.deBruijn64tab", laid_math_bits_deBruijn64tab), ("internal/strconv.uint64pow10", laid_internal_strconv_uint64pow10)] }
def MemoryExchangesSaid : Prop := memoryExchangesRow.holds Tryz.pinned (OpenSpec.ofChange memoryExchangesSpec)

/-- ITS FALSE NEIGHBOUR: 'it returns false'. Refute it at one input. -/
def memoryExchangesWrong : ChangeSpec := { name := "memoryExchanges", fn := fun _ => fun
  | [d1, d2, d3] => { results := [.lit (.bool false)], args := [d1, d2, d3] }
  | _ => none }
def MemoryExchangesWrongFalsely : Prop := memoryExchangesRow.holds Tryz.pinned (OpenSpec.ofChange memoryExchangesWrong)

/-- 'bitextlaw16.MemoryPuts': WHATEVER THE INPUT: true; the input reads as it did. -/
def memoryPutsSpec : ChangeSpec := { name := "memoryPuts", fn := fun _ => fun
  | [d1, d2, d3, d4, d5, d6] => { results := [.lit (.bool true)], args := [d1, d2, d3, d4, d5, d6] }
  | _ => none }
def memoryPutsRow : OpenClaim := { program := "ytigalfbihapdnaagreatdoor", sum := "b6d0bb3a938ab42f456914d4d82f8d4cc7d986a33502c5b8b201162cc366ea9d", func := "bitext/bitextlaw16.MemoryPuts", spec := "memoryPuts", inPlace := ["internal/bytealg.IndexByteString", "internal/bytealg.IndexString", "slices.overlaps[bitext/api.Entry]"], unfollowed := true, recurses := true, named := ["internal/bytealg.MaxLen", "internal/strconv.uint64pow10", "math/bits.deBruijn32tab", "math/bits.deBruijn64tab"], apart := false, laid := [("math/bits.deBruijn32tab", laid_math_bits_deBruijn32tab), ("math/bits.deBruijn64tab", laid_math_bits_deBruijn64tab), ("internal/strconv.uint64pow10", laid_internal_strconv_uint64pow10)] }
def MemoryPutsSaid : Prop := memoryPutsRow.holds Tryz.pinned (OpenSpec.ofChange memoryPutsSpec)

/-- ITS FALSE NEIGHBOUR: 'it returns false'. Refute it at one input. -/
def memoryPutsWrong : ChangeSpec := { name := "memoryPuts", fn := fun _ => fun
  | [d1, d2, d3, d4, d5, d6] => { results := [.lit (.bool false)], args := [d1, d2, d3, d4, d5, d6] }
  | _ => none }
def MemoryPutsWrongFalsely : Prop := memoryPutsRow.holds Tryz.pinned (OpenSpec.ofChange memoryPutsWrong)

/-- 'bitextlaw16.MemoryKeeps': WHATEVER THE INPUT: true; the input reads as it did. -/
def memoryKeepsSpec : ChangeSpec := { name := "memoryKeeps", fn := fun _ => fun
  | [d1, d2] => { results := [.lit (.bool true)], args := [d1, d2] }
  | _ => none }
def memoryKeepsRow : OpenClaim := { program := "ytigalfbihapdnaagreatdoor", sum := "b6d0bb3a938ab42f456914d4d82f8d4cc7d986a33502c5b8b201162cc366ea9d", func := "bitext/bitextlaw16.MemoryKeeps", spec := "memoryKeeps", inPlace := ["internal/bytealg.IndexByteString", "internal/bytealg.IndexString", "slices.overlaps[bitext/api.Entry]"], unfollowed := true, recurses := true, named := ["internal/bytealg.MaxLen", "internal/strconv.uint64pow10", "math/bits.deBruijn32tab", "math/bits.deBruijn64tab"], apart := false, laid := [("math/bits.deBruijn32tab", laid_math_bits_deBruijn32tab), ("math/bits.deBruijn64tab", laid_math_bits_deBruijn64tab), ("internal/strconv.uint64pow10", laid_internal_strconv_uint64pow10)] }
def MemoryKeepsSaid : Prop := memoryKeepsRow.holds Tryz.pinned (OpenSpec.ofChange memoryKeepsSpec)

/-- ITS FALSE NEIGHBOUR: 'it returns false'. Refute it at one input. -/
def memoryKeepsWrong : ChangeSpec := { name := "memoryKeeps", fn := fun _ => fun
  | [d1, d2] => { results := [.lit (.bool false)], args := [d1, d2] }
  | _ => none }
def MemoryKeepsWrongFalsely : Prop := memoryKeepsRow.holds Tryz.pinned (OpenSpec.ofChange memoryKeepsWrong)

/-- 'bitextlaw16.MemoryValidates': WHATEVER THE INPUT: true; the input reads as it did. -/
def memoryValidatesSpec : ChangeSpec := { name := "memoryValidates", fn := fun _ => fun
  | [d1, d2, d3, d4, d5] => { results := [.lit (.bool true)], args := [d1, d2, d3, d4, d5] }
  | _ => none }
def memoryValidatesRow : OpenClaim := { program := "ytigalfbihapdnaagreatdoor", sum := "b6d0bb3a938ab42f456914d4d82f8d4cc7d986a33502c5b8b201162cc366ea9d", func := "bitext/bitextlaw16.MemoryValidates", spec := "memoryValidates", inPlace := ["internal/bytealg.IndexByteString", "internal/bytealg.IndexString", "slices.overlaps[bitext/api.Entry]"], unfollowed := true, recurses := true, named := ["internal/bytealg.MaxLen", "internal/strconv.uint64pow10", "math/bits.deBruijn32tab", "math/bits.deBruijn64tab"], apart := false, laid := [("math/bits.deBruijn32tab", laid_math_bits_deBruijn32tab), ("math/bits.deBruijn64tab", laid_math_bits_deBruijn64tab), ("internal/strconv.uint64pow10", laid_internal_strconv_uint64pow10)] }
def MemoryValidatesSaid : Prop := memoryValidatesRow.holds Tryz.pinned (OpenSpec.ofChange memoryValidatesSpec)

/-- ITS FALSE NEIGHBOUR: 'it returns false'. Refute it at one input. -/
def memoryValidatesWrong : ChangeSpec := { name := "memoryValidates", fn := fun _ => fun
  | [d1, d2, d3, d4, d5] => { results := [.lit (.bool false)], args := [d1, d2, d3, d4, d5] }
  | _ => none }
def MemoryValidatesWrongFalsely : Prop := memoryValidatesRow.holds Tryz.pinned (OpenSpec.ofChange memoryValidatesWrong)

/-- 'bitextlaw16.MemoryOrder': WHATEVER THE INPUT: true; the input reads as it did. -/
def memoryOrderSpec : ChangeSpec := { name := "memoryOrder", fn := fun _ => fun
  | [d1, d2, d3, d4] => { results := [.lit (.bool true)], args := [d1, d2, d3, d4] }
  | _ => none }
def memoryOrderRow : OpenClaim := { program := "ytigalfbihapdnaagreatdoor", sum := "b6d0bb3a938ab42f456914d4d82f8d4cc7d986a33502c5b8b201162cc366ea9d", func := "bitext/bitextlaw16.MemoryOrder", spec := "memoryOrder", inPlace := ["internal/bytealg.IndexByteString", "internal/bytealg.IndexString", "slices.overlaps[bitext/api.Entry]"], unfollowed := true, recurses := true, named := ["internal/bytealg.MaxLen", "internal/strconv.uint64pow10", "math/bits.deBruijn32tab", "math/bits.deBruijn64tab"], apart := false, laid := [("math/bits.deBruijn32tab", laid_math_bits_deBruijn32tab), ("math/bits.deBruijn64tab", laid_math_bits_deBruijn64tab), ("internal/strconv.uint64pow10", laid_internal_strconv_uint64pow10)] }
def MemoryOrderSaid : Prop := memoryOrderRow.holds Tryz.pinned (OpenSpec.ofChange memoryOrderSpec)

/-- ITS FALSE NEIGHBOUR: 'it returns false'. Refute it at one input. -/
def memoryOrderWrong : ChangeSpec := { name := "memoryOrder", fn := fun _ => fun
  | [d1, d2, d3, d4] => { results := [.lit (.bool false)], args := [d1, d2, d3, d4] }
  | _ => none }
def MemoryOrderWrongFalsely : Prop := memoryOrderRow.holds Tryz.pinned (OpenSpec.ofChange memoryOrderWrong)

/-- 'bitextlaw16.MemoryUnites': WHATEVER THE INPUT: true; the input reads as it did. -/
def memoryUnitesSpec : ChangeSpec := { name := "memoryUnites", fn := fun _ => fun
  | [d1, d2, d3] => { results := [.lit (.bool true)], args := [d1, d2, d3] }
  | _ => none }
def memoryUnitesRow : OpenClaim := { program := "ytigalfbihapdnaagreatdoor", sum := "b6d0bb3a938ab42f456914d4d82f8d4cc7d986a33502c5b8b201162cc366ea9d", func := "bitext/bitextlaw16.MemoryUnites", spec := "memoryUnites", inPlace := ["internal/bytealg.IndexByteString", "internal/bytealg.IndexString", "slices.overlaps[bitext/api.Entry]"], unfollowed := true, recurses := true, named := ["internal/bytealg.MaxLen", "internal/strconv.uint64pow10", "math/bits.deBruijn32tab", "math/bits.deBruijn64tab"], apart := false, laid := [("math/bits.deBruijn32tab", laid_math_bits_deBruijn32tab), ("math/bits.deBruijn64tab", laid_math_bits_deBruijn64tab), ("internal/strconv.uint64pow10", laid_internal_strconv_uint64pow10)] }
def MemoryUnitesSaid : Prop := memoryUnitesRow.holds Tryz.pinned (OpenSpec.ofChange memoryUnitesSpec)

/-- ITS FALSE NEIGHBOUR: 'it returns false'. Refute it at one input. -/
def memoryUnitesWrong : ChangeSpec := { name := "memoryUnites", fn := fun _ => fun
  | [d1, d2, d3] => { results := [.lit (.bool false)], args := [d1, d2, d3] }
  | _ => none }
def MemoryUnitesWrongFalsely : Prop := memoryUnitesRow.holds Tryz.pinned (OpenSpec.ofChange memoryUnitesWrong)

/-- 'bitextlaw16.MemoryGreater': WHATEVER THE INPUT: true; the input reads as it did. -/
def memoryGreaterSpec : ChangeSpec := { name := "memoryGreater", fn := fun _ => fun
  | [d1, d2, d3] => { results := [.lit (.bool true)], args := [d1, d2, d3] }
  | _ => none }
def memoryGreaterRow : OpenClaim := { program := "ytigalfbihapdnaagreatdoor", sum := "b6d0bb3a938ab42f456914d4d82f8d4cc7d986a33502c5b8b201162cc366ea9d", func := "bitext/bitextlaw16.MemoryGreater", spec := "memoryGreater", inPlace := ["internal/bytealg.IndexByteString", "internal/bytealg.IndexString", "slices.overlaps[bitext/api.Entry]"], unfollowed := true, recurses := true, named := ["internal/bytealg.MaxLen", "internal/strconv.uint64pow10", "math/bits.deBruijn32tab", "math/bits.deBruijn64tab"], apart := false, laid := [("math/bits.deBruijn32tab", laid_math_bits_deBruijn32tab), ("math/bits.deBruijn64tab", laid_math_bits_deBruijn64tab), ("internal/strconv.uint64pow10", laid_internal_strconv_uint64pow10)] }
def MemoryGreaterSaid : Prop := memoryGreaterRow.holds Tryz.pinned (OpenSpec.ofChange memoryGreaterSpec)

/-- ITS FALSE NEIGHBOUR: 'it returns false'. Refute it at one input. -/
def memoryGreaterWrong : ChangeSpec := { name := "memoryGreater", fn := fun _ => fun
  | [d1, d2, d3] => { results := [.lit (.bool false)], args := [d1, d2, d3] }
  | _ => none }
def MemoryGreaterWrongFalsely : Prop := memoryGreaterRow.holds Tryz.pinned (OpenSpec.ofChange memoryGreaterWrong)

/-- 'bitextlaw16.MemoryLimits': WHATEVER THE INPUT: true; the input reads as it did. -/
def memoryLimitsSpec : ChangeSpec := { name := "memoryLimits", fn := fun _ => fun
  | [d1, d2] => { results := [.lit (.bool true)], args := [d1, d2] }
  | _ => none }
def memoryLimitsRow : OpenClaim := { program := "ytigalfbihapdnaagreatdoor", sum := "b6d0bb3a938ab42f456914d4d82f8d4cc7d986a33502c5b8b201162cc366ea9d", func := "bitext/bitextlaw16.MemoryLimits", spec := "memoryLimits", inPlace := ["internal/bytealg.IndexByteString", "internal/bytealg.IndexString", "slices.overlaps[bitext/api.Entry]"], unfollowed := true, recurses := true, named := ["internal/bytealg.MaxLen", "internal/strconv.uint64pow10", "math/bits.deBruijn32tab", "math/bits.deBruijn64tab"], apart := false, laid := [("math/bits.deBruijn32tab", laid_math_bits_deBruijn32tab), ("math/bits.deBruijn64tab", laid_math_bits_deBruijn64tab), ("internal/strconv.uint64pow10", laid_internal_strconv_uint64pow10)] }
def MemoryLimitsSaid : Prop := memoryLimitsRow.holds Tryz.pinned (OpenSpec.ofChange memoryLimitsSpec)

/-- ITS FALSE NEIGHBOUR: 'it returns false'. Refute it at one input. -/
def memoryLimitsWrong : ChangeSpec := { name := "memoryLimits", fn := fun _ => fun
  | [d1, d2] => { results := [.lit (.bool false)], args := [d1, d2] }
  | _ => none }
def MemoryLimitsWrongFalsely : Prop := memoryLimitsRow.holds Tryz.pinned (OpenSpec.ofChange memoryLimitsWrong)

/-- 'bitextlaw21.ConcordSearches': WHATEVER THE INPUT: true; the input reads as it did. -/
def concordSearchesSpec : ChangeSpec := { name := "concordSearches", fn := fun _ => fun
  | [d1, d2, d3, d4, d5] => { results := [.lit (.bool true)], args := [d1, d2, d3, d4, d5] }
  | _ => none }
def concordSearchesRow : OpenClaim := { program := "ytigalfbihapdnaagreatdoor", sum := "b6d0bb3a938ab42f456914d4d82f8d4cc7d986a33502c5b8b201162cc366ea9d", func := "bitext/bitextlaw21.ConcordSearches", spec := "concordSearches", inPlace := ["internal/bytealg.IndexByteString", "internal/bytealg.IndexString", "slices.overlaps[bitext/concord.stored]"], unfollowed := true, recurses := true, named := ["internal/bytealg.MaxLen", "internal/strconv.uint64pow10", "math/bits.deBruijn32tab", "math/bits.deBruijn64tab"], apart := false, laid := [("math/bits.deBruijn32tab", laid_math_bits_deBruijn32tab), ("math/bits.deBruijn64tab", laid_math_bits_deBruijn64tab), ("internal/strconv.uint64pow10", laid_internal_strconv_uint64pow10)] }
def ConcordSearchesSaid : Prop := concordSearchesRow.holds Tryz.pinned (OpenSpec.ofChange concordSearchesSpec)

/-- ITS FALSE NEIGHBOUR: 'it returns false'. Refute it at one input. -/
def concordSearchesWrong : ChangeSpec := { name := "concordSearches", fn := fun _ => fun
  | [d1, d2, d3, d4, d5] => { results := [.lit (.bool false)], args := [d1, d2, d3, d4, d5] }
  | _ => none }
def ConcordSearchesWrongFalsely : Prop := concordSearchesRow.holds Tryz.pinned (OpenSpec.ofChange concordSearchesWrong)

/- THE SECOND FORM. 'bulk': how many values and letters a reading holds, each counted each time it is reached (what is shared counts as often as it is met; a slice's spare places count too). A statement '..UptoSaid' is the law's where the arguments, and the package variables that the reading takes, are together of bulk at most 1048576: NARROWER than '..Said'. Prove '..Said' where nothing that the law and all that it calls make is longer than what came in: it says more and counts as full. Else prove '..UptoSaid'. A law counts once. -/
mutual
def uptoBulk {H : Type} : DataW H → Nat
  | .lit (.string bytes) => bytes.length + 1
  | .lit _ => 1
  | .nil => 1
  | .ptr d => uptoBulk d + 1
  | .slice elems spare => uptoBulkAll elems + uptoBulkAll spare + 1
  | .agg parts => uptoBulkAll parts + 1
  | .iface _ d => uptoBulk d + 1
  | .map entries => uptoBulkEntries entries + 1
  | .held _ => 1
def uptoBulkAll {H : Type} : List (DataW H) → Nat
  | [] => 0
  | d :: r => uptoBulk d + uptoBulkAll r
def uptoBulkEntries {H : Type} : List (Lit × DataW H) → Nat
  | [] => 0
  | x :: r => uptoBulkEntry x + uptoBulkEntries r
def uptoBulkEntry {H : Type} : Lit × DataW H → Nat
  | (.string bytes, d) => bytes.length + uptoBulk d + 1
  | (_, d) => uptoBulk d + 1
 end
def uptoSmall : (H : Type) → List (DataW H) → Bool := fun _ ds => decide (uptoBulkAll ds ≤ 1048576)
def OpenSpec.upto (s : _root_.Go.ChangeSpec) : _root_.Go.OpenSpec := { _root_.Go.OpenSpec.ofChange s with cond := some uptoSmall }

/-- 'bitextlaw21.ConcordRefuses', WHERE WHAT IT READS IS OF BULK AT MOST 1048576: true; the input reads as it did. -/
def concordRefusesUptoRow : OpenClaim := { program := "ytigalfbihapdnaagreatdoor", sum := "b6d0bb3a938ab42f456914d4d82f8d4cc7d986a33502c5b8b201162cc366ea9d", func := "bitext/bitextlaw21.ConcordRefuses", spec := "concordRefuses", inPlace := ["internal/bytealg.IndexByteString", "internal/bytealg.IndexString"], unfollowed := true, recurses := true, named := ["internal/bytealg.MaxLen", "internal/strconv.uint64pow10", "math/bits.deBruijn32tab", "math/bits.deBruijn64tab"], apart := false, laid := [("math/bits.deBruijn32tab", laid_math_bits_deBruijn32tab), ("math/bits.deBruijn64tab", laid_math_bits_deBruijn64tab), ("internal/strconv.uint64pow10", laid_internal_strconv_uint64pow10)], narrowed := true }
def ConcordRefusesUptoSaid : Prop := concordRefusesUptoRow.holds Tryz.pinned (OpenSpec.upto concordRefusesSpec)

/-- 'bitextlaw16.MemoryKeys', WHERE WHAT IT READS IS OF BULK AT MOST 1048576: true; the input reads as it did. -/
def memoryKeysUptoRow : OpenClaim := { program := "ytigalfbihapdnaagreatdoor", sum := "b6d0bb3a938ab42f456914d4d82f8d4cc7d986a33502c5b8b201162cc366ea9d", func := "bitext/bitextlaw16.MemoryKeys", spec := "memoryKeys", inPlace := ["internal/bytealg.IndexByteString", "internal/bytealg.IndexString", "slices.overlaps[bitext/api.Entry]"], unfollowed := true, recurses := true, named := ["internal/bytealg.MaxLen", "internal/strconv.uint64pow10", "math/bits.deBruijn32tab", "math/bits.deBruijn64tab"], apart := false, laid := [("math/bits.deBruijn32tab", laid_math_bits_deBruijn32tab), ("math/bits.deBruijn64tab", laid_math_bits_deBruijn64tab), ("internal/strconv.uint64pow10", laid_internal_strconv_uint64pow10)], narrowed := true }
def MemoryKeysUptoSaid : Prop := memoryKeysUptoRow.holds Tryz.pinned (OpenSpec.upto memoryKeysSpec)

/-- 'bitextlaw16.MemoryExchanges', WHERE WHAT IT READS IS OF BULK AT MOST 1048576: true; the input reads as it did. -/
def memoryExchangesUptoRow : OpenClaim := { program := "ytigalfbihapdnaagreatdoor", sum := "b6d0bb3a938ab42f456914d4d82f8d4cc7d986a33502c5b8b201162cc366ea9d", func := "bitext/bitextlaw16.MemoryExchanges", spec := "memoryExchanges", inPlace := ["internal/bytealg.IndexByteString", "internal/bytealg.IndexString", "slices.overlaps[bitext/api.Entry]"], unfollowed := true, recurses := true, named := ["internal/bytealg.MaxLen", "internal/strconv.uint64pow10", "math/bits.deBruijn32tab", "math/bits.deBruijn64tab"], apart := false, laid := [("math/bits.deBruijn32tab", laid_math_bits_deBruijn32tab), ("math/bits.deBruijn64tab", laid_math_bits_deBruijn64tab), ("internal/strconv.uint64pow10", laid_internal_strconv_uint64pow10)], narrowed := true }
def MemoryExchangesUptoSaid : Prop := memoryExchangesUptoRow.holds Tryz.pinned (OpenSpec.upto memoryExchangesSpec)

/-- 'bitextlaw16.MemoryPuts', WHERE WHAT IT READS IS OF BULK AT MOST 1048576: true; the input reads as it did. -/
def memoryPutsUptoRow : OpenClaim := { program := "ytigalfbihapdnaagreatdoor", sum := "b6d0bb3a938ab42f456914d4d82f8d4cc7d986a33502c5b8b201162cc366ea9d", func := "bitext/bitextlaw16.MemoryPuts", spec := "memoryPuts", inPlace := ["internal/bytealg.IndexByteString", "internal/bytealg.IndexString", "slices.overlaps[bitext/api.Entry]"], unfollowed := true, recurses := true, named := ["internal/bytealg.MaxLen", "internal/strconv.uint64pow10", "math/bits.deBruijn32tab", "math/bits.deBruijn64tab"], apart := false, laid := [("math/bits.deBruijn32tab", laid_math_bits_deBruijn32tab), ("math/bits.deBruijn64tab", laid_math_bits_deBruijn64tab), ("internal/strconv.uint64pow10", laid_internal_strconv_uint64pow10)], narrowed := true }
def MemoryPutsUptoSaid : Prop := memoryPutsUptoRow.holds Tryz.pinned (OpenSpec.upto memoryPutsSpec)

/-- 'bitextlaw16.MemoryKeeps', WHERE WHAT IT READS IS OF BULK AT MOST 1048576: true; the input reads as it did. -/
def memoryKeepsUptoRow : OpenClaim := { program := "ytigalfbihapdnaagreatdoor", sum := "b6d0bb3a938ab42f456914d4d82f8d4cc7d986a33502c5b8b201162cc366ea9d", func := "bitext/bitextlaw16.MemoryKeeps", spec := "memoryKeeps", inPlace := ["internal/bytealg.IndexByteString", "internal/bytealg.IndexString", "slices.overlaps[bitext/api.Entry]"], unfollowed := true, recurses := true, named := ["internal/bytealg.MaxLen", "internal/strconv.uint64pow10", "math/bits.deBruijn32tab", "math/bits.deBruijn64tab"], apart := false, laid := [("math/bits.deBruijn32tab", laid_math_bits_deBruijn32tab), ("math/bits.deBruijn64tab", laid_math_bits_deBruijn64tab), ("internal/strconv.uint64pow10", laid_internal_strconv_uint64pow10)], narrowed := true }
def MemoryKeepsUptoSaid : Prop := memoryKeepsUptoRow.holds Tryz.pinned (OpenSpec.upto memoryKeepsSpec)

/-- 'bitextlaw16.MemoryValidates', WHERE WHAT IT READS IS OF BULK AT MOST 1048576: true; the input reads as it did. -/
def memoryValidatesUptoRow : OpenClaim := { program := "ytigalfbihapdnaagreatdoor", sum := "b6d0bb3a938ab42f456914d4d82f8d4cc7d986a33502c5b8b201162cc366ea9d", func := "bitext/bitextlaw16.MemoryValidates", spec := "memoryValidates", inPlace := ["internal/bytealg.IndexByteString", "internal/bytealg.IndexString", "slices.overlaps[bitext/api.Entry]"], unfollowed := true, recurses := true, named := ["internal/bytealg.MaxLen", "internal/strconv.uint64pow10", "math/bits.deBruijn32tab", "math/bits.deBruijn64tab"], apart := false, laid := [("math/bits.deBruijn32tab", laid_math_bits_deBruijn32tab), ("math/bits.deBruijn64tab", laid_math_bits_deBruijn64tab), ("internal/strconv.uint64pow10", laid_internal_strconv_uint64pow10)], narrowed := true }
def MemoryValidatesUptoSaid : Prop := memoryValidatesUptoRow.holds Tryz.pinned (OpenSpec.upto memoryValidatesSpec)

/-- 'bitextlaw16.MemoryOrder', WHERE WHAT IT READS IS OF BULK AT MOST 1048576: true; the input reads as it did. -/
def memoryOrderUptoRow : OpenClaim := { program := "ytigalfbihapdnaagreatdoor", sum := "b6d0bb3a938ab42f456914d4d82f8d4cc7d986a33502c5b8b201162cc366ea9d", func := "bitext/bitextlaw16.MemoryOrder", spec := "memoryOrder", inPlace := ["internal/bytealg.IndexByteString", "internal/bytealg.IndexString", "slices.overlaps[bitext/api.Entry]"], unfollowed := true, recurses := true, named := ["internal/bytealg.MaxLen", "internal/strconv.uint64pow10", "math/bits.deBruijn32tab", "math/bits.deBruijn64tab"], apart := false, laid := [("math/bits.deBruijn32tab", laid_math_bits_deBruijn32tab), ("math/bits.deBruijn64tab", laid_math_bits_deBruijn64tab), ("internal/strconv.uint64pow10", laid_internal_strconv_uint64pow10)], narrowed := true }
def MemoryOrderUptoSaid : Prop := memoryOrderUptoRow.holds Tryz.pinned (OpenSpec.upto memoryOrderSpec)

/-- 'bitextlaw16.MemoryUnites', WHERE WHAT IT READS IS OF BULK AT MOST 1048576: true; the input reads as it did. -/
def memoryUnitesUptoRow : OpenClaim := { program := "ytigalfbihapdnaagreatdoor", sum := "b6d0bb3a938ab42f456914d4d82f8d4cc7d986a33502c5b8b201162cc366ea9d", func := "bitext/bitextlaw16.MemoryUnites", spec := "memoryUnites", inPlace := ["internal/bytealg.IndexByteString", "internal/bytealg.IndexString", "slices.overlaps[bitext/api.Entry]"], unfollowed := true, recurses := true, named := ["internal/bytealg.MaxLen", "internal/strconv.uint64pow10", "math/bits.deBruijn32tab", "math/bits.deBruijn64tab"], apart := false, laid := [("math/bits.deBruijn32tab", laid_math_bits_deBruijn32tab), ("math/bits.deBruijn64tab", laid_math_bits_deBruijn64tab), ("internal/strconv.uint64pow10", laid_internal_strconv_uint64pow10)], narrowed := true }
def MemoryUnitesUptoSaid : Prop := memoryUnitesUptoRow.holds Tryz.pinned (OpenSpec.upto memoryUnitesSpec)

/-- 'bitextlaw16.MemoryGreater', WHERE WHAT IT READS IS OF BULK AT MOST 1048576: true; the input reads as it did. -/
def memoryGreaterUptoRow : OpenClaim := { program := "ytigalfbihapdnaagreatdoor", sum := "b6d0bb3a938ab42f456914d4d82f8d4cc7d986a33502c5b8b201162cc366ea9d", func := "bitext/bitextlaw16.MemoryGreater", spec := "memoryGreater", inPlace := ["internal/bytealg.IndexByteString", "internal/bytealg.IndexString", "slices.overlaps[bitext/api.Entry]"], unfollowed := true, recurses := true, named := ["internal/bytealg.MaxLen", "internal/strconv.uint64pow10", "math/bits.deBruijn32tab", "math/bits.deBruijn64tab"], apart := false, laid := [("math/bits.deBruijn32tab", laid_math_bits_deBruijn32tab), ("math/bits.deBruijn64tab", laid_math_bits_deBruijn64tab), ("internal/strconv.uint64pow10", laid_internal_strconv_uint64pow10)], narrowed := true }
def MemoryGreaterUptoSaid : Prop := memoryGreaterUptoRow.holds Tryz.pinned (OpenSpec.upto memoryGreaterSpec)

/-- 'bitextlaw16.MemoryLimits', WHERE WHAT IT READS IS OF BULK AT MOST 1048576: true; the input reads as it did. -/
def memoryLimitsUptoRow : OpenClaim := { program := "ytigalfbihapdnaagreatdoor", sum := "b6d0bb3a938ab42f456914d4d82f8d4cc7d986a33502c5b8b201162cc366ea9d", func := "bitext/bitextlaw16.MemoryLimits", spec := "memoryLimits", inPlace := ["internal/bytealg.IndexByteString", "internal/bytealg.IndexString", "slices.overlaps[bitext/api.Entry]"], unfollowed := true, recurses := true, named := ["internal/bytealg.MaxLen", "internal/strconv.uint64pow10", "math/bits.deBruijn32tab", "math/bits.deBruijn64tab"], apart := false, laid := [("math/bits.deBruijn32tab", laid_math_bits_deBruijn32tab), ("math/bits.deBruijn64tab", laid_math_bits_deBruijn64tab), ("internal/strconv.uint64pow10", laid_internal_strconv_uint64pow10)], narrowed := true }
def MemoryLimitsUptoSaid : Prop := memoryLimitsUptoRow.holds Tryz.pinned (OpenSpec.upto memoryLimitsSpec)

/-- 'bitextlaw21.ConcordSearches', WHERE WHAT IT READS IS OF BULK AT MOST 1048576: true; the input reads as it did. -/
def concordSearchesUptoRow : OpenClaim := { program := "ytigalfbihapdnaagreatdoor", sum := "b6d0bb3a938ab42f456914d4d82f8d4cc7d986a33502c5b8b201162cc366ea9d", func := "bitext/bitextlaw21.ConcordSearches", spec := "concordSearches", inPlace := ["internal/bytealg.IndexByteString", "internal/bytealg.IndexString", "slices.overlaps[bitext/concord.stored]"], unfollowed := true, recurses := true, named := ["internal/bytealg.MaxLen", "internal/strconv.uint64pow10", "math/bits.deBruijn32tab", "math/bits.deBruijn64tab"], apart := false, laid := [("math/bits.deBruijn32tab", laid_math_bits_deBruijn32tab), ("math/bits.deBruijn64tab", laid_math_bits_deBruijn64tab), ("internal/strconv.uint64pow10", laid_internal_strconv_uint64pow10)], narrowed := true }
def ConcordSearchesUptoSaid : Prop := concordSearchesUptoRow.holds Tryz.pinned (OpenSpec.upto concordSearchesSpec)

end Rows
end Go.Proofs.YtigalfbihapdnaaGreatDoor
