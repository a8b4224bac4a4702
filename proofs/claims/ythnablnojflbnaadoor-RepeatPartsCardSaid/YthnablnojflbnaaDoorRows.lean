/-
  NARROWER THAN 'FOR EVERY INPUT', by the rows' own cells (each row's printed sentence says how): RepeatKeys: laid · RepeatFirst: laid · RepeatParts: laid · NotationFormats: laid · NotationParses: laid · NotationRoundTrips: laid · NotationCanonical: laid · NotationInjective: laid · NotationPrefix: laid · NotationLimits: laid · RepeatBest: laid · RepeatLimits: laid.
  DERIVED. THE GIVEN ROWS OF THIS SEAT. 12 by the template 'for every input the law returns true; each argument reads behind the call as it read before'; 0 by the template 'total and deterministic' (their statements: YthnablnojflbnaaDoorTotals.lean).
  GIVEN WITH THE SEED: the statements are not yours to turn. If you find one false, say at which input.
  Laid BY PROGRAM, IN A SANDBOX (cutbox-rows.mjs): the forced cells as the released guide's own fill.sh prints them over the translation 4a6927cd336b4995… (all of the seat's roots in one cut). By AI agents, Wed Nov 11 2026. No macro, syntax, notation, axiom, sorry.
-/
import Derived.Test.YthnablnojflbnaaDoorChecked
import GoSem.Claim
import GoSem.ClaimJoined
import GoSem.ClaimMapViews
import Derived.JoinedTies
import Derived.KernelRfl
namespace Go.Proofs.YthnablnojflbnaaDoor
/- THE CELL 'sum', in the pinned program and in every row, IS THE sha256 OF THE DUMP (.gsa) THAT YthnablnojflbnaaDoorProg.lean LOADS. Nothing in Lean hashes anything: it is a label: what it is worth is what the hold of that sum in a sandbox is worth. -/
noncomputable def Tryd.pinned : Pinned := { name := "ythnablnojflbnaadoor", sum := "4a6927cd336b4995b3ee463acd683d918e70f3ddeece08989bc16e483bf65a1d", checked := Tryd.checked }
namespace Rows
def none {H : Type} : Left H := { results := [], args := [] }

/- WHAT THE LISTED PACKAGE-LEVEL VARIABLES READ AS WHEN THE CALL BEGINS. Each datum BY PROGRAM (the guide's laid-datum.mjs) off the statement by which the dump's own 'gosem.cut.vars' lays the variable. In a bare row this is a premise. The card (YthnablnojflbnaaDoorCards.lean) ties it to the program's text. -/
def laid_math_bits_deBruijn32tab {H : Type} : DataW H := .agg [.lit (.int .u8 0), .lit (.int .u8 1), .lit (.int .u8 28), .lit (.int .u8 2), .lit (.int .u8 29), .lit (.int .u8 14), .lit (.int .u8 24), .lit (.int .u8 3), .lit (.int .u8 30), .lit (.int .u8 22), .lit (.int .u8 20), .lit (.int .u8 15), .lit (.int .u8 25), .lit (.int .u8 17), .lit (.int .u8 4), .lit (.int .u8 8), .lit (.int .u8 31), .lit (.int .u8 27), .lit (.int .u8 13), .lit (.int .u8 23), .lit (.int .u8 21), .lit (.int .u8 19), .lit (.int .u8 16), .lit (.int .u8 7), .lit (.int .u8 26), .lit (.int .u8 12), .lit (.int .u8 18), .lit (.int .u8 6), .lit (.int .u8 11), .lit (.int .u8 5), .lit (.int .u8 10), .lit (.int .u8 9)]
def laid_math_bits_deBruijn64tab {H : Type} : DataW H := .agg [.lit (.int .u8 0), .lit (.int .u8 1), .lit (.int .u8 56), .lit (.int .u8 2), .lit (.int .u8 57), .lit (.int .u8 49), .lit (.int .u8 28), .lit (.int .u8 3), .lit (.int .u8 61), .lit (.int .u8 58), .lit (.int .u8 42), .lit (.int .u8 50), .lit (.int .u8 38), .lit (.int .u8 29), .lit (.int .u8 17), .lit (.int .u8 4), .lit (.int .u8 62), .lit (.int .u8 47), .lit (.int .u8 59), .lit (.int .u8 36), .lit (.int .u8 45), .lit (.int .u8 43), .lit (.int .u8 51), .lit (.int .u8 22), .lit (.int .u8 53), .lit (.int .u8 39), .lit (.int .u8 33), .lit (.int .u8 30), .lit (.int .u8 24), .lit (.int .u8 18), .lit (.int .u8 12), .lit (.int .u8 5), .lit (.int .u8 63), .lit (.int .u8 55), .lit (.int .u8 48), .lit (.int .u8 27), .lit (.int .u8 60), .lit (.int .u8 41), .lit (.int .u8 37), .lit (.int .u8 16), .lit (.int .u8 46), .lit (.int .u8 35), .lit (.int .u8 44), .lit (.int .u8 21), .lit (.int .u8 52), .lit (.int .u8 32), .lit (.int .u8 23), .lit (.int .u8 11), .lit (.int .u8 54), .lit (.int .u8 26), .lit (.int .u8 40), .lit (.int .u8 15), .lit (.int .u8 34), .lit (.int .u8 20), .lit (.int .u8 31), .lit (.int .u8 10), .lit (.int .u8 25), .lit (.int .u8 14), .lit (.int .u8 19), .lit (.int .u8 9), .lit (.int .u8 13), .lit (.int .u8 8), .lit (.int .u8 7), .lit (.int .u8 6)]
def laid_internal_strconv_uint64pow10 {H : Type} : DataW H := .agg [.lit (.int .u64 1), .lit (.int .u64 10), .lit (.int .u64 100), .lit (.int .u64 1000), .lit (.int .u64 10000), .lit (.int .u64 100000), .lit (.int .u64 1000000), .lit (.int .u64 10000000), .lit (.int .u64 100000000), .lit (.int .u64 1000000000), .lit (.int .u64 10000000000), .lit (.int .u64 100000000000), .lit (.int .u64 1000000000000), .lit (.int .u64 10000000000000), .lit (.int .u64 100000000000000), .lit (.int .u64 1000000000000000), .lit (.int .u64 10000000000000000), .lit (.int .u64 100000000000000000), .lit (.int .u64 1000000000000000000), .lit (.int .u64 10000000000000000000)]

/-- 'bitextlaw19.RepeatKeys': WHATEVER THE INPUT: true; the input reads as it did. -/
def repeatKeysSpec : ChangeSpec := { name := "repeatKeys", fn := fun _ => fun
  | [d1, d2, d3, d4] => { results := [.lit (.bool true)], args := [d1, d2, d3, d4] }
  | _ => none }
def repeatKeysRow : OpenClaim := { program := "ythnablnojflbnaadoor", sum := "4a6927cd336b4995b3ee463acd683d918e70f3ddeece08989bc16e483bf65a1d", func := "bitext/bitextlaw19.RepeatKeys", spec := "repeatKeys", inPlace := ["internal/bytealg.IndexByteString", "internal/bytealg.IndexString"], named := ["internal/bytealg.MaxLen", "internal/strconv.uint64pow10", "math/bits.deBruijn32tab", "math/bits.deBruijn64tab"], plainKeys := false, apart := false, laid := [("math/bits.deBruijn32tab", laid_math_bits_deBruijn32tab), ("math/bits.deBruijn64tab", laid_math_bits_deBruijn64tab), ("internal/strconv.uint64pow10", laid_internal_strconv_uint64pow10)] }
def RepeatKeysSaid : Prop := repeatKeysRow.holds Tryd.pinned (OpenSpec.ofChange repeatKeysSpec)

/-- ITS FALSE NEIGHBOUR: 'it returns false'. Refute it at one input. -/
def repeatKeysWrong : ChangeSpec := { name := "repeatKeys", fn := fun _ => fun
  | [d1, d2, d3, d4] => { results := [.lit (.bool false)], args := [d1, d2, d3, d4] }
  | _ => none }
def RepeatKeysWrongFalsely : Prop := repeatKeysRow.holds Tryd.pinned (OpenSpec.ofChange repeatKeysWrong)

/-- 'bitextlaw19.RepeatFirst': WHATEVER THE INPUT: true; the input reads as it did. -/
def repeatFirstSpec : ChangeSpec := { name := "repeatFirst", fn := fun _ => fun
  | [d1, d2] => { results := [.lit (.bool true)], args := [d1, d2] }
  | _ => none }
def repeatFirstRow : OpenClaim := { program := "ythnablnojflbnaadoor", sum := "4a6927cd336b4995b3ee463acd683d918e70f3ddeece08989bc16e483bf65a1d", func := "bitext/bitextlaw19.RepeatFirst", spec := "repeatFirst", inPlace := ["internal/bytealg.IndexByteString", "internal/bytealg.IndexString"], named := ["internal/bytealg.MaxLen", "internal/strconv.uint64pow10", "math/bits.deBruijn32tab", "math/bits.deBruijn64tab"], plainKeys := false, apart := false, laid := [("math/bits.deBruijn32tab", laid_math_bits_deBruijn32tab), ("math/bits.deBruijn64tab", laid_math_bits_deBruijn64tab), ("internal/strconv.uint64pow10", laid_internal_strconv_uint64pow10)] }
def RepeatFirstSaid : Prop := repeatFirstRow.holds Tryd.pinned (OpenSpec.ofChange repeatFirstSpec)

/-- ITS FALSE NEIGHBOUR: 'it returns false'. Refute it at one input. -/
def repeatFirstWrong : ChangeSpec := { name := "repeatFirst", fn := fun _ => fun
  | [d1, d2] => { results := [.lit (.bool false)], args := [d1, d2] }
  | _ => none }
def RepeatFirstWrongFalsely : Prop := repeatFirstRow.holds Tryd.pinned (OpenSpec.ofChange repeatFirstWrong)

/-- 'bitextlaw19.RepeatParts': WHATEVER THE INPUT: true; the input reads as it did. -/
def repeatPartsSpec : ChangeSpec := { name := "repeatParts", fn := fun _ => fun
  | [d] => { results := [.lit (.bool true)], args := [d] }
  | _ => none }
def repeatPartsRow : OpenClaim := { program := "ythnablnojflbnaadoor", sum := "4a6927cd336b4995b3ee463acd683d918e70f3ddeece08989bc16e483bf65a1d", func := "bitext/bitextlaw19.RepeatParts", spec := "repeatParts", inPlace := ["internal/bytealg.IndexByteString", "internal/bytealg.IndexString"], named := ["internal/bytealg.MaxLen", "internal/strconv.uint64pow10", "math/bits.deBruijn32tab", "math/bits.deBruijn64tab"], plainKeys := false, apart := false, laid := [("math/bits.deBruijn32tab", laid_math_bits_deBruijn32tab), ("math/bits.deBruijn64tab", laid_math_bits_deBruijn64tab), ("internal/strconv.uint64pow10", laid_internal_strconv_uint64pow10)] }
def RepeatPartsSaid : Prop := repeatPartsRow.holds Tryd.pinned (OpenSpec.ofChange repeatPartsSpec)

/-- ITS FALSE NEIGHBOUR: 'it returns false'. Refute it at one input. -/
def repeatPartsWrong : ChangeSpec := { name := "repeatParts", fn := fun _ => fun
  | [d] => { results := [.lit (.bool false)], args := [d] }
  | _ => none }
def RepeatPartsWrongFalsely : Prop := repeatPartsRow.holds Tryd.pinned (OpenSpec.ofChange repeatPartsWrong)

/-- 'bitextlaw4.NotationFormats': WHATEVER THE INPUT: true; the input reads as it did. -/
def notationFormatsSpec : ChangeSpec := { name := "notationFormats", fn := fun _ => fun
  | [d1, d2] => { results := [.lit (.bool true)], args := [d1, d2] }
  | _ => none }
def notationFormatsRow : OpenClaim := { program := "ythnablnojflbnaadoor", sum := "4a6927cd336b4995b3ee463acd683d918e70f3ddeece08989bc16e483bf65a1d", func := "bitext/bitextlaw4.NotationFormats", spec := "notationFormats", inPlace := ["internal/bytealg.IndexByteString", "internal/bytealg.IndexString"], named := ["internal/bytealg.MaxLen", "internal/strconv.uint64pow10", "math/bits.deBruijn32tab", "math/bits.deBruijn64tab"], plainKeys := false, apart := false, laid := [("math/bits.deBruijn32tab", laid_math_bits_deBruijn32tab), ("math/bits.deBruijn64tab", laid_math_bits_deBruijn64tab), ("internal/strconv.uint64pow10", laid_internal_strconv_uint64pow10)] }
def NotationFormatsSaid : Prop := notationFormatsRow.holds Tryd.pinned (OpenSpec.ofChange notationFormatsSpec)

/-- ITS FALSE NEIGHBOUR: 'it returns false'. Refute it at one input. -/
def notationFormatsWrong : ChangeSpec := { name := "notationFormats", fn := fun _ => fun
  | [d1, d2] => { results := [.lit (.bool false)], args := [d1, d2] }
  | _ => none }
def NotationFormatsWrongFalsely : Prop := notationFormatsRow.holds Tryd.pinned (OpenSpec.ofChange notationFormatsWrong)

/-- 'bitextlaw4.NotationParses': WHATEVER THE INPUT: true; the input reads as it did. -/
def notationParsesSpec : ChangeSpec := { name := "notationParses", fn := fun _ => fun
  | [d1, d2, d3, d4] => { results := [.lit (.bool true)], args := [d1, d2, d3, d4] }
  | _ => none }
def notationParsesRow : OpenClaim := { program := "ythnablnojflbnaadoor", sum := "4a6927cd336b4995b3ee463acd683d918e70f3ddeece08989bc16e483bf65a1d", func := "bitext/bitextlaw4.NotationParses", spec := "notationParses", inPlace := ["internal/bytealg.IndexByteString", "internal/bytealg.IndexString"], named := ["internal/bytealg.MaxLen", "internal/strconv.uint64pow10", "math/bits.deBruijn32tab", "math/bits.deBruijn64tab"], plainKeys := false, apart := false, laid := [("math/bits.deBruijn32tab", laid_math_bits_deBruijn32tab), ("math/bits.deBruijn64tab", laid_math_bits_deBruijn64tab), ("internal/strconv.uint64pow10", laid_internal_strconv_uint64pow10)] }
def NotationParsesSaid : Prop := notationParsesRow.holds Tryd.pinned (OpenSpec.ofChange notationParsesSpec)

/-- ITS FALSE NEIGHBOUR: 'it returns false'. Refute it at one input. -/
def notationParsesWrong : ChangeSpec := { name := "notationParses", fn := fun _ => fun
  | [d1, d2, d3, d4] => { results := [.lit (.bool false)], args := [d1, d2, d3, d4] }
  | _ => none }
def NotationParsesWrongFalsely : Prop := notationParsesRow.holds Tryd.pinned (OpenSpec.ofChange notationParsesWrong)

/-- 'bitextlaw4.NotationRoundTrips': WHATEVER THE INPUT: true; the input reads as it did. -/
def notationRoundTripsSpec : ChangeSpec := { name := "notationRoundTrips", fn := fun _ => fun
  | [d1, d2] => { results := [.lit (.bool true)], args := [d1, d2] }
  | _ => none }
def notationRoundTripsRow : OpenClaim := { program := "ythnablnojflbnaadoor", sum := "4a6927cd336b4995b3ee463acd683d918e70f3ddeece08989bc16e483bf65a1d", func := "bitext/bitextlaw4.NotationRoundTrips", spec := "notationRoundTrips", inPlace := ["internal/bytealg.IndexByteString", "internal/bytealg.IndexString"], named := ["internal/bytealg.MaxLen", "internal/strconv.uint64pow10", "math/bits.deBruijn32tab", "math/bits.deBruijn64tab"], plainKeys := false, apart := false, laid := [("math/bits.deBruijn32tab", laid_math_bits_deBruijn32tab), ("math/bits.deBruijn64tab", laid_math_bits_deBruijn64tab), ("internal/strconv.uint64pow10", laid_internal_strconv_uint64pow10)] }
def NotationRoundTripsSaid : Prop := notationRoundTripsRow.holds Tryd.pinned (OpenSpec.ofChange notationRoundTripsSpec)

/-- ITS FALSE NEIGHBOUR: 'it returns false'. Refute it at one input. -/
def notationRoundTripsWrong : ChangeSpec := { name := "notationRoundTrips", fn := fun _ => fun
  | [d1, d2] => { results := [.lit (.bool false)], args := [d1, d2] }
  | _ => none }
def NotationRoundTripsWrongFalsely : Prop := notationRoundTripsRow.holds Tryd.pinned (OpenSpec.ofChange notationRoundTripsWrong)

/-- 'bitextlaw4.NotationCanonical': WHATEVER THE INPUT: true; the input reads as it did. -/
def notationCanonicalSpec : ChangeSpec := { name := "notationCanonical", fn := fun _ => fun
  | [d1, d2, d3] => { results := [.lit (.bool true)], args := [d1, d2, d3] }
  | _ => none }
def notationCanonicalRow : OpenClaim := { program := "ythnablnojflbnaadoor", sum := "4a6927cd336b4995b3ee463acd683d918e70f3ddeece08989bc16e483bf65a1d", func := "bitext/bitextlaw4.NotationCanonical", spec := "notationCanonical", inPlace := ["internal/bytealg.IndexByteString", "internal/bytealg.IndexString"], named := ["internal/bytealg.MaxLen", "internal/strconv.uint64pow10", "math/bits.deBruijn32tab", "math/bits.deBruijn64tab"], plainKeys := false, apart := false, laid := [("math/bits.deBruijn32tab", laid_math_bits_deBruijn32tab), ("math/bits.deBruijn64tab", laid_math_bits_deBruijn64tab), ("internal/strconv.uint64pow10", laid_internal_strconv_uint64pow10)] }
def NotationCanonicalSaid : Prop := notationCanonicalRow.holds Tryd.pinned (OpenSpec.ofChange notationCanonicalSpec)

/-- ITS FALSE NEIGHBOUR: 'it returns false'. Refute it at one input. -/
def notationCanonicalWrong : ChangeSpec := { name := "notationCanonical", fn := fun _ => fun
  | [d1, d2, d3] => { results := [.lit (.bool false)], args := [d1, d2, d3] }
  | _ => none }
def NotationCanonicalWrongFalsely : Prop := notationCanonicalRow.holds Tryd.pinned (OpenSpec.ofChange notationCanonicalWrong)

/-- 'bitextlaw4.NotationInjective': WHATEVER THE INPUT: true; the input reads as it did. -/
def notationInjectiveSpec : ChangeSpec := { name := "notationInjective", fn := fun _ => fun
  | [d1, d2] => { results := [.lit (.bool true)], args := [d1, d2] }
  | _ => none }
def notationInjectiveRow : OpenClaim := { program := "ythnablnojflbnaadoor", sum := "4a6927cd336b4995b3ee463acd683d918e70f3ddeece08989bc16e483bf65a1d", func := "bitext/bitextlaw4.NotationInjective", spec := "notationInjective", inPlace := ["internal/bytealg.IndexByteString", "internal/bytealg.IndexString"], named := ["internal/bytealg.MaxLen", "internal/strconv.uint64pow10", "math/bits.deBruijn32tab", "math/bits.deBruijn64tab"], plainKeys := false, apart := false, laid := [("math/bits.deBruijn32tab", laid_math_bits_deBruijn32tab), ("math/bits.deBruijn64tab", laid_math_bits_deBruijn64tab), ("internal/strconv.uint64pow10", laid_internal_strconv_uint64pow10)] }
def NotationInjectiveSaid : Prop := notationInjectiveRow.holds Tryd.pinned (OpenSpec.ofChange notationInjectiveSpec)

/-- ITS FALSE NEIGHBOUR: 'it returns false'. Refute it at one input. -/
def notationInjectiveWrong : ChangeSpec := { name := "notationInjective", fn := fun _ => fun
  | [d1, d2] => { results := [.lit (.bool false)], args := [d1, d2] }
  | _ => none }
def NotationInjectiveWrongFalsely : Prop := notationInjectiveRow.holds Tryd.pinned (OpenSpec.ofChange notationInjectiveWrong)

/-- 'bitextlaw4.NotationPrefix': WHATEVER THE INPUT: true; the input reads as it did. -/
def notationPrefixSpec : ChangeSpec := { name := "notationPrefix", fn := fun _ => fun
  | [d1, d2] => { results := [.lit (.bool true)], args := [d1, d2] }
  | _ => none }
def notationPrefixRow : OpenClaim := { program := "ythnablnojflbnaadoor", sum := "4a6927cd336b4995b3ee463acd683d918e70f3ddeece08989bc16e483bf65a1d", func := "bitext/bitextlaw4.NotationPrefix", spec := "notationPrefix", inPlace := ["internal/bytealg.IndexByteString", "internal/bytealg.IndexString"], named := ["internal/bytealg.MaxLen", "internal/strconv.uint64pow10", "math/bits.deBruijn32tab", "math/bits.deBruijn64tab"], plainKeys := false, apart := false, laid := [("math/bits.deBruijn32tab", laid_math_bits_deBruijn32tab), ("math/bits.deBruijn64tab", laid_math_bits_deBruijn64tab), ("internal/strconv.uint64pow10", laid_internal_strconv_uint64pow10)] }
def NotationPrefixSaid : Prop := notationPrefixRow.holds Tryd.pinned (OpenSpec.ofChange notationPrefixSpec)

/-- ITS FALSE NEIGHBOUR: 'it returns false'. Refute it at one input. -/
def notationPrefixWrong : ChangeSpec := { name := "notationPrefix", fn := fun _ => fun
  | [d1, d2] => { results := [.lit (.bool false)], args := [d1, d2] }
  | _ => none }
def NotationPrefixWrongFalsely : Prop := notationPrefixRow.holds Tryd.pinned (OpenSpec.ofChange notationPrefixWrong)

/-- 'bitextlaw4.NotationLimits': WHATEVER THE INPUT: true; the input reads as it did. -/
def notationLimitsSpec : ChangeSpec := { name := "notationLimits", fn := fun _ => fun
  | [d1, d2] => { results := [.lit (.bool true)], args := [d1, d2] }
  | _ => none }
def notationLimitsRow : OpenClaim := { program := "ythnablnojflbnaadoor", sum := "4a6927cd336b4995b3ee463acd683d918e70f3ddeece08989bc16e483bf65a1d", func := "bitext/bitextlaw4.NotationLimits", spec := "notationLimits", inPlace := ["internal/bytealg.IndexByteString", "internal/bytealg.IndexString"], named := ["internal/bytealg.MaxLen", "internal/strconv.uint64pow10", "math/bits.deBruijn32tab", "math/bits.deBruijn64tab"], plainKeys := false, apart := false, laid := [("math/bits.deBruijn32tab", laid_math_bits_deBruijn32tab), ("math/bits.deBruijn64tab", laid_math_bits_deBruijn64tab), ("internal/strconv.uint64pow10", laid_internal_strconv_uint64pow10)] }
def NotationLimitsSaid : Prop := notationLimitsRow.holds Tryd.pinned (OpenSpec.ofChange notationLimitsSpec)

/-- ITS FALSE NEIGHBOUR: 'it returns false'. Refute it at one input. -/
def notationLimitsWrong : ChangeSpec := { name := "notationLimits", fn := fun _ => fun
  | [d1, d2] => { results := [.lit (.bool false)], args := [d1, d2] }
  | _ => none }
def NotationLimitsWrongFalsely : Prop := notationLimitsRow.holds Tryd.pinned (OpenSpec.ofChange notationLimitsWrong)

/-- 'bitextlaw19.RepeatBest': WHATEVER THE INPUT: true; the input reads as it did. -/
def repeatBestSpec : ChangeSpec := { name := "repeatBest", fn := fun _ => fun
  | [d1, d2] => { results := [.lit (.bool true)], args := [d1, d2] }
  | _ => none }
def repeatBestRow : OpenClaim := { program := "ythnablnojflbnaadoor", sum := "4a6927cd336b4995b3ee463acd683d918e70f3ddeece08989bc16e483bf65a1d", func := "bitext/bitextlaw19.RepeatBest", spec := "repeatBest", inPlace := ["internal/bytealg.IndexByteString", "internal/bytealg.IndexString"], unfollowed := true, recurses := true, named := ["internal/bytealg.MaxLen", "internal/strconv.uint64pow10", "math/bits.deBruijn32tab", "math/bits.deBruijn64tab"], plainKeys := false, apart := false, laid := [("math/bits.deBruijn32tab", laid_math_bits_deBruijn32tab), ("math/bits.deBruijn64tab", laid_math_bits_deBruijn64tab), ("internal/strconv.uint64pow10", laid_internal_strconv_uint64pow10)] }
def RepeatBestSaid : Prop := repeatBestRow.holds Tryd.pinned (OpenSpec.ofChange repeatBestSpec)

/-- ITS FALSE NEIGHBOUR: 'it returns false'. Refute it at one input. -/
def repeatBestWrong : ChangeSpec := { name := "repeatBest", fn := fun _ => fun
  | [d1, d2] => { results := [.lit (.bool false)], args := [d1, d2] }
  | _ => none }
def RepeatBestWrongFalsely : Prop := repeatBestRow.holds Tryd.pinned (OpenSpec.ofChange repeatBestWrong)

/-- 'bitextlaw19.RepeatLimits': WHATEVER THE INPUT: true; the input reads as it did. -/
def repeatLimitsSpec : ChangeSpec := { name := "repeatLimits", fn := fun _ => fun
  | [d] => { results := [.lit (.bool true)], args := [d] }
  | _ => none }
def repeatLimitsRow : OpenClaim := { program := "ythnablnojflbnaadoor", sum := "4a6927cd336b4995b3ee463acd683d918e70f3ddeece08989bc16e483bf65a1d", func := "bitext/bitextlaw19.RepeatLimits", spec := "repeatLimits", inPlace := ["internal/bytealg.IndexByteString", "internal/bytealg.IndexString"], unfollowed := true, recurses := true, named := ["internal/bytealg.MaxLen", "internal/strconv.uint64pow10", "math/bits.deBruijn32tab", "math/bits.deBruijn64tab"], plainKeys := false, apart := false, laid := [("math/bits.deBruijn32tab", laid_math_bits_deBruijn32tab), ("math/bits.deBruijn64tab", laid_math_bits_deBruijn64tab), ("internal/strconv.uint64pow10", laid_internal_strconv_uint64pow10)] }
def RepeatLimitsSaid : Prop := repeatLimitsRow.holds Tryd.pinned (OpenSpec.ofChange repeatLimitsSpec)

/-- ITS FALSE NEIGHBOUR: 'it returns false'. Refute it at one input. -/
def repeatLimitsWrong : ChangeSpec := { name := "repeatLimits", fn := fun _ => fun
  | [d] => { results := [.lit (.bool false)], args := [d] }
  | _ => none }
def RepeatLimitsWrongFalsely : Prop := repeatLimitsRow.holds Tryd.pinned (OpenSpec.ofChange repeatLimitsWrong)

/- THE SECOND FORM. 'bulk': how many values and letters a reading holds, each counted each time it is reached (what is shared counts as often as it is met; a slice's spare places count too). A statement '..UptoSaid' is the law's where the arguments, and the package variables that the reading takes, are together of bulk at most 1048576: NARROWER than '..Said'. Prove '..Said' where nothing that the law and all that it calls make is longer than what came in: it says more and counts as full. Else prove '..UptoSaid'. A law counts once. -/
mutual
def uptoBulk {H : Type} : DataW H → Nat
  | .lit (.string bytes) => bytes.length + 1
  | .lit _ => 1
  | .nil => 1
  | .ptr d => uptoBulk d + 1
  | .slice elems spare => uptoBulkAll elems + uptoBulkAll spare + 1
  | .agg parts => uptoBulkAll parts + 1
  | .iface _ d => uptoBulk d + 1
  | .map entries => uptoBulkEntries entries + 1
  | .held _ => 1
def uptoBulkAll {H : Type} : List (DataW H) → Nat
  | [] => 0
  | d :: r => uptoBulk d + uptoBulkAll r
def uptoBulkEntries {H : Type} : List (Lit × DataW H) → Nat
  | [] => 0
  | x :: r => uptoBulkEntry x + uptoBulkEntries r
def uptoBulkEntry {H : Type} : Lit × DataW H → Nat
  | (.string bytes, d) => bytes.length + uptoBulk d + 1
  | (_, d) => uptoBulk d + 1
 end
def uptoSmall : (H : Type) → List (DataW H) → Bool := fun _ ds => decide (uptoBulkAll ds ≤ 1048576)
def OpenSpec.upto (s : _root_.Go.ChangeSpec) : _root_.Go.OpenSpec := { _root_.Go.OpenSpec.ofChange s with cond := some uptoSmall }

/-- 'bitextlaw19.RepeatKeys', WHERE WHAT IT READS IS OF BULK AT MOST 1048576: true; the input reads as it did. -/
def repeatKeysUptoRow : OpenClaim := { program := "ythnablnojflbnaadoor", sum := "4a6927cd336b4995b3ee463acd683d918e70f3ddeece08989bc16e483bf65a1d", func := "bitext/bitextlaw19.RepeatKeys", spec := "repeatKeys", inPlace := ["internal/bytealg.IndexByteString", "internal/bytealg.IndexString"], named := ["internal/bytealg.MaxLen", "internal/strconv.uint64pow10", "math/bits.deBruijn32tab", "math/bits.deBruijn64tab"], plainKeys := false, apart := false, laid := [("math/bits.deBruijn32tab", laid_math_bits_deBruijn32tab), ("math/bits.deBruijn64tab", laid_math_bits_deBruijn64tab), ("internal/strconv.uint64pow10", laid_internal_strconv_uint64pow10)], narrowed := true }
def RepeatKeysUptoSaid : Prop := repeatKeysUptoRow.holds Tryd.pinned (OpenSpec.upto repeatKeysSpec)

/-- 'bitextlaw19.RepeatFirst', WHERE WHAT IT READS IS OF BULK AT MOST 1048576: true; the input reads as it did. -/
def repeatFirstUptoRow : OpenClaim := { program := "ythnablnojflbnaadoor", sum := "4a6927cd336b4995b3ee463acd683d918e70f3ddeece08989bc16e483bf65a1d", func := "bitext/bitextlaw19.RepeatFirst", spec := "repeatFirst", inPlace := ["internal/bytealg.IndexByteString", "internal/bytealg.IndexString"], named := ["internal/bytealg.MaxLen", "internal/strconv.uint64pow10", "math/bits.deBruijn32tab", "math/bits.deBruijn64tab"], plainKeys := false, apart := false, laid := [("math/bits.deBruijn32tab", laid_math_bits_deBruijn32tab), ("math/bits.deBruijn64tab", laid_math_bits_deBruijn64tab), ("internal/strconv.uint64pow10", laid_internal_strconv_uint64pow10)], narrowed := true }
def RepeatFirstUptoSaid : Prop := repeatFirstUptoRow.holds Tryd.pinned (OpenSpec.upto repeatFirstSpec)

/-- 'bitextlaw19.RepeatParts', WHERE WHAT IT READS IS OF BULK AT MOST 1048576: true; the input reads as it did. -/
def repeatPartsUptoRow : OpenClaim := { program := "ythnablnojflbnaadoor", sum := "4a6927cd336b4995b3ee463acd683d918e70f3ddeece08989bc16e483bf65a1d", func := "bitext/bitextlaw19.RepeatParts", spec := "repeatParts", inPlace := ["internal/bytealg.IndexByteString", "internal/bytealg.IndexString"], named := ["internal/bytealg.MaxLen", "internal/strconv.uint64pow10", "math/bits.deBruijn32tab", "math/bits.deBruijn64tab"], plainKeys := false, apart := false, laid := [("math/bits.deBruijn32tab", laid_math_bits_deBruijn32tab), ("math/bits.deBruijn64tab", laid_math_bits_deBruijn64tab), ("internal/strconv.uint64pow10", laid_internal_strconv_uint64pow10)], narrowed := true }
def RepeatPartsUptoSaid : Prop := repeatPartsUptoRow.holds Tryd.pinned (OpenSpec.upto repeatPartsSpec)

/-- 'bitextlaw4.NotationFormats', WHERE WHAT IT READS IS OF BULK AT MOST 1048576: true; the input reads as it did. -/
def notationFormatsUptoRow : OpenClaim := { program := "ythnablnojflbnaadoor", sum := "4a6927cd336b4995b3ee463acd683d918e70f3ddeece08989bc16e483bf65a1d", func := "bitext/bitextlaw4.NotationFormats", spec := "notationFormats", inPlace := ["internal/bytealg.IndexByteString", "internal/bytealg.IndexString"], named := ["internal/bytealg.MaxLen", "internal/strconv.uint64pow10", "math/bits.deBruijn32tab", "math/bits.deBruijn64tab"], plainKeys := false, apart := false, laid := [("math/bits.deBruijn32tab", laid_math_bits_deBruijn32tab), ("math/bits.deBruijn64tab", laid_math_bits_deBruijn64tab), ("internal/strconv.uint64pow10", laid_internal_strconv_uint64pow10)], narrowed := true }
def NotationFormatsUptoSaid : Prop := notationFormatsUptoRow.holds Tryd.pinned (OpenSpec.upto notationFormatsSpec)

/-- 'bitextlaw4.NotationParses', WHERE WHAT IT READS IS OF BULK AT MOST 1048576: true; the input reads as it did. -/
def notationParsesUptoRow : OpenClaim := { program := "ythnablnojflbnaadoor", sum := "4a6927cd336b4995b3ee463acd683d918e70f3ddeece08989bc16e483bf65a1d", func := "bitext/bitextlaw4.NotationParses", spec := "notationParses", inPlace := ["internal/bytealg.IndexByteString", "internal/bytealg.IndexString"], named := ["internal/bytealg.MaxLen", "internal/strconv.uint64pow10", "math/bits.deBruijn32tab", "math/bits.deBruijn64tab"], plainKeys := false, apart := false, laid := [("math/bits.deBruijn32tab", laid_math_bits_deBruijn32tab), ("math/bits.deBruijn64tab", laid_math_bits_deBruijn64tab), ("internal/strconv.uint64pow10", laid_internal_strconv_uint64pow10)], narrowed := true }
def NotationParsesUptoSaid : Prop := notationParsesUptoRow.holds Tryd.pinned (OpenSpec.upto notationParsesSpec)

/-- 'bitextlaw4.NotationRoundTrips', WHERE WHAT IT READS IS OF BULK AT MOST 1048576: true; the input reads as it did. -/
def notationRoundTripsUptoRow : OpenClaim := { program := "ythnablnojflbnaadoor", sum := "4a6927cd336b4995b3ee463acd683d918e70f3ddeece08989bc16e483bf65a1d", func := "bitext/bitextlaw4.NotationRoundTrips", spec := "notationRoundTrips", inPlace := ["internal/bytealg.IndexByteString", "internal/bytealg.IndexString"], named := ["internal/bytealg.MaxLen", "internal/strconv.uint64pow10", "math/bits.deBruijn32tab", "math/bits.deBruijn64tab"], plainKeys := false, apart := false, laid := [("math/bits.deBruijn32tab", laid_math_bits_deBruijn32tab), ("math/bits.deBruijn64tab", laid_math_bits_deBruijn64tab), ("internal/strconv.uint64pow10", laid_internal_strconv_uint64pow10)], narrowed := true }
def NotationRoundTripsUptoSaid : Prop := notationRoundTripsUptoRow.holds Tryd.pinned (OpenSpec.upto notationRoundTripsSpec)

/-- 'bitextlaw4.NotationCanonical', WHERE WHAT IT READS IS OF BULK AT MOST 1048576: true; the input reads as it did. -/
def notationCanonicalUptoRow : OpenClaim := { program := "ythnablnojflbnaadoor", sum := "4a6927cd336b4995b3ee463acd683d918e70f3ddeece08989bc16e483bf65a1d", func := "bitext/bitextlaw4.NotationCanonical", spec := "notationCanonical", inPlace := ["internal/bytealg.IndexByteString", "internal/bytealg.IndexString"], named := ["internal/bytealg.MaxLen", "internal/strconv.uint64pow10", "math/bits.deBruijn32tab", "math/bits.deBruijn64tab"], plainKeys := false, apart := false, laid := [("math/bits.deBruijn32tab", laid_math_bits_deBruijn32tab), ("math/bits.deBruijn64tab", laid_math_bits_deBruijn64tab), ("internal/strconv.uint64pow10", laid_internal_strconv_uint64pow10)], narrowed := true }
def NotationCanonicalUptoSaid : Prop := notationCanonicalUptoRow.holds Tryd.pinned (OpenSpec.upto notationCanonicalSpec)

/-- 'bitextlaw4.NotationInjective', WHERE WHAT IT READS IS OF BULK AT MOST 1048576: true; the input reads as it did. -/
def notationInjectiveUptoRow : OpenClaim := { program := "ythnablnojflbnaadoor", sum := "4a6927cd336b4995b3ee463acd683d918e70f3ddeece08989bc16e483bf65a1d", func := "bitext/bitextlaw4.NotationInjective", spec := "notationInjective", inPlace := ["internal/bytealg.IndexByteString", "internal/bytealg.IndexString"], named := ["internal/bytealg.MaxLen", "internal/strconv.uint64pow10", "math/bits.deBruijn32tab", "math/bits.deBruijn64tab"], plainKeys := false, apart := false, laid := [("math/bits.deBruijn32tab", laid_math_bits_deBruijn32tab), ("math/bits.deBruijn64tab", laid_math_bits_deBruijn64tab), ("internal/strconv.uint64pow10", laid_internal_strconv_uint64pow10)], narrowed := true }
def NotationInjectiveUptoSaid : Prop := notationInjectiveUptoRow.holds Tryd.pinned (OpenSpec.upto notationInjectiveSpec)

/-- 'bitextlaw4.NotationPrefix', WHERE WHAT IT READS IS OF BULK AT MOST 1048576: true; the input reads as it did. -/
def notationPrefixUptoRow : OpenClaim := { program := "ythnablnojflbnaadoor", sum := "4a6927cd336b4995b3ee463acd683d918e70f3ddeece08989bc16e483bf65a1d", func := "bitext/bitextlaw4.NotationPrefix", spec := "notationPrefix", inPlace := ["internal/bytealg.IndexByteString", "internal/bytealg.IndexString"], named := ["internal/bytealg.MaxLen", "internal/strconv.uint64pow10", "math/bits.deBruijn32tab", "math/bits.deBruijn64tab"], plainKeys := false, apart := false, laid := [("math/bits.deBruijn32tab", laid_math_bits_deBruijn32tab), ("math/bits.deBruijn64tab", laid_math_bits_deBruijn64tab), ("internal/strconv.uint64pow10", laid_internal_strconv_uint64pow10)], narrowed := true }
def NotationPrefixUptoSaid : Prop := notationPrefixUptoRow.holds Tryd.pinned (OpenSpec.upto notationPrefixSpec)

/-- 'bitextlaw4.NotationLimits', WHERE WHAT IT READS IS OF BULK AT MOST 1048576: true; the input reads as it did. -/
def notationLimitsUptoRow : OpenClaim := { program := "ythnablnojflbnaadoor", sum := "4a6927cd336b4995b3ee463acd683d918e70f3ddeece08989bc16e483bf65a1d", func := "bitext/bitextlaw4.NotationLimits", spec := "notationLimits", inPlace := ["internal/bytealg.IndexByteString", "internal/bytealg.IndexString"], named := ["internal/bytealg.MaxLen", "internal/strconv.uint64pow10", "math/bits.deBruijn32tab", "math/bits.deBruijn64tab"], plainKeys := false, apart := false, laid := [("math/bits.deBruijn32tab", laid_math_bits_deBruijn32tab), ("math/bits.deBruijn64tab", laid_math_bits_deBruijn64tab), ("internal/strconv.uint64pow10", laid_internal_strconv_uint64pow10)], narrowed := true }
def NotationLimitsUptoSaid : Prop := notationLimitsUptoRow.holds Tryd.pinned (OpenSpec.upto notationLimitsSpec)

/-- 'bitextlaw19.RepeatBest', WHERE WHAT IT READS IS OF BULK AT MOST 1048576: true; the input reads as it did. -/
def repeatBestUptoRow : OpenClaim := { program := "ythnablnojflbnaadoor", sum := "4a6927cd336b4995b3ee463acd683d918e70f3ddeece08989bc16e483bf65a1d", func := "bitext/bitextlaw19.RepeatBest", spec := "repeatBest", inPlace := ["internal/bytealg.IndexByteString", "internal/bytealg.IndexString"], unfollowed := true, recurses := true, named := ["internal/bytealg.MaxLen", "internal/strconv.uint64pow10", "math/bits.deBruijn32tab", "math/bits.deBruijn64tab"], plainKeys := false, apart := false, laid := [("math/bits.deBruijn32tab", laid_math_bits_deBruijn32tab), ("math/bits.deBruijn64tab", laid_math_bits_deBruijn64tab), ("internal/strconv.uint64pow10", laid_internal_strconv_uint64pow10)], narrowed := true }
def RepeatBestUptoSaid : Prop := repeatBestUptoRow.holds Tryd.pinned (OpenSpec.upto repeatBestSpec)

/-- 'bitextlaw19.RepeatLimits', WHERE WHAT IT READS IS OF BULK AT MOST 1048576: true; the input reads as it did. -/
def repeatLimitsUptoRow : OpenClaim := { program := "ythnablnojflbnaadoor", sum := "4a6927cd336b4995b3ee463acd683d918e70f3ddeece08989bc16e483bf65a1d", func := "bitext/bitextlaw19.RepeatLimits", spec := "repeatLimits", inPlace := ["internal/bytealg.IndexByteString", "internal/bytealg.IndexString"], unfollowed := true, recurses := true, named := ["internal/bytealg.MaxLen", "internal/strconv.uint64pow10", "math/bits.deBruijn32tab", "math/bits.deBruijn64tab"], plainKeys := false, apart := false, laid := [("math/bits.deBruijn32tab", laid_math_bits_deBruijn32tab), ("math/bits.deBruijn64tab", laid_math_bits_deBruijn64tab), ("internal/strconv.uint64pow10", laid_internal_strconv_uint64pow10)], narrowed := true }
def RepeatLimitsUptoSaid : Prop := repeatLimitsUptoRow.holds Tryd.pinned (OpenSpec.upto repeatLimitsSpec)

end Rows
end Go.Proofs.YthnablnojflbnaaDoor
