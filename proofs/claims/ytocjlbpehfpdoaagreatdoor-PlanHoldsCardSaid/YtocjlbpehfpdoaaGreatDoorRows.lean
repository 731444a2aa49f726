/-
  NARROWER THAN 'FOR EVERY INPUT', by the rows' own cells (each row's printed sentence says how): PlanHolds: laid · PathAlone: laid · BinPuts: laid · BinGets: laid · BinRight: laid · BinCuts: laid · BinAlike: laid · CatalogOrders: laid · CatalogStands: laid.
  DERIVED. THE GIVEN ROWS OF THIS SEAT. 9 by the template 'for every input the law returns true; each argument reads behind the call as it read before'; 0 by the template 'total and deterministic' (their statements: YtocjlbpehfpdoaaGreatDoorTotals.lean).
  GIVEN WITH THE SEED: the statements are not yours to turn. If you find one false, say at which input.
  Laid BY PROGRAM, IN A SANDBOX (cutbox-rows.mjs): the forced cells as the released guide's own fill.sh prints them over the translation bd77d221e37df66e… (all of the seat's roots in one cut). By AI agents, Wed Nov 11 2026. No macro, syntax, notation, axiom, sorry.
-/
import Derived.Test.YtocjlbpehfpdoaaGreatDoorChecked
import GoSem.PinnedTables
import GoSem.Claim
import GoSem.ClaimJoined
import GoSem.ClaimMapViews
import Derived.JoinedTies
import Derived.KernelRfl
namespace Go.Proofs.YtocjlbpehfpdoaaGreatDoor
/- THE CELL 'sum', in the pinned program and in every row, IS THE sha256 OF THE DUMP (.gsa) THAT YtocjlbpehfpdoaaGreatDoorProg.lean LOADS. Nothing in Lean hashes anything: it is a label: what it is worth is what the hold of that sum in a sandbox is worth. -/
noncomputable def Tryz.pinned : Pinned := { name := "ytocjlbpehfpdoaagreatdoor", sum := "bd77d221e37df66e757b006e64339e870bb3e33bf9c613efb65a91927fc5455c", checked := Tryz.checked }
namespace Rows
def none {H : Type} : Left H := { results := [], args := [] }

/- WHAT THE LISTED PACKAGE-LEVEL VARIABLES READ AS WHEN THE CALL BEGINS. Each datum BY PROGRAM (the guide's laid-datum.mjs) off the statement by which the dump's own 'gosem.cut.vars' lays the variable. In a bare row this is a premise. The card (YtocjlbpehfpdoaaGreatDoorCards.lean) ties it to the program's text. -/
def laid_unicode_utf8_acceptRanges {H : Type} : DataW H := .agg [.agg [.lit (.int .u8 128), .lit (.int .u8 191)], .agg [.lit (.int .u8 160), .lit (.int .u8 191)], .agg [.lit (.int .u8 128), .lit (.int .u8 159)], .agg [.lit (.int .u8 144), .lit (.int .u8 191)], .agg [.lit (.int .u8 128), .lit (.int .u8 143)], .agg [.lit (.int .u8 0), .lit (.int .u8 0)], .agg [.lit (.int .u8 0), .lit (.int .u8 0)], .agg [.lit (.int .u8 0), .lit (.int .u8 0)], .agg [.lit (.int .u8 0), .lit (.int .u8 0)], .agg [.lit (.int .u8 0), .lit (.int .u8 0)], .agg [.lit (.int .u8 0), .lit (.int .u8 0)], .agg [.lit (.int .u8 0), .lit (.int .u8 0)], .agg [.lit (.int .u8 0), .lit (.int .u8 0)], .agg [.lit (.int .u8 0), .lit (.int .u8 0)], .agg [.lit (.int .u8 0), .lit (.int .u8 0)], .agg [.lit (.int .u8 0), .lit (.int .u8 0)]]
def laid_rubricator_order_kinds {H : Type} : DataW H := .agg [.agg [.lit (.int .u8 1), .lit (.int .u8 2)], .agg [.lit (.int .u8 2), .lit (.int .u8 4)], .agg [.lit (.int .u8 4), .lit (.int .u8 5)], .agg [.lit (.int .u8 5), .lit (.int .u8 6)], .agg [.lit (.int .u8 6), .lit (.int .u8 7)], .agg [.lit (.int .u8 6), .lit (.int .u8 7)]]
/-- One of Go's own tables, pinned by name: the form's constant. -/
def laid_unicode_CaseRanges : DataW Unit := Go.Pinned.caseRanges
/-- One of Go's own tables, pinned by name: the form's constant. -/
def laid_unicode_utf8_first : DataW Unit := Go.Pinned.utf8First
def laid_math_bits_deBruijn32tab {H : Type} : DataW H := .agg [.lit (.int .u8 0), .lit (.int .u8 1), .lit (.int .u8 28), .lit (.int .u8 2), .lit (.int .u8 29), .lit (.int .u8 14), .lit (.int .u8 24), .lit (.int .u8 3), .lit (.int .u8 30), .lit (.int .u8 22), .lit (.int .u8 20), .lit (.int .u8 15), .lit (.int .u8 25), .lit (.int .u8 17), .lit (.int .u8 4), .lit (.int .u8 8), .lit (.int .u8 31), .lit (.int .u8 27), .lit (.int .u8 13), .lit (.int .u8 23), .lit (.int .u8 21), .lit (.int .u8 19), .lit (.int .u8 16), .lit (.int .u8 7), .lit (.int .u8 26), .lit (.int .u8 12), .lit (.int .u8 18), .lit (.int .u8 6), .lit (.int .u8 11), .lit (.int .u8 5), .lit (.int .u8 10), .lit (.int .u8 9)]
def laid_math_bits_deBruijn64tab {H : Type} : DataW H := .agg [.lit (.int .u8 0), .lit (.int .u8 1), .lit (.int .u8 56), .lit (.int .u8 2), .lit (.int .u8 57), .lit (.int .u8 49), .lit (.int .u8 28), .lit (.int .u8 3), .lit (.int .u8 61), .lit (.int .u8 58), .lit (.int .u8 42), .lit (.int .u8 50), .lit (.int .u8 38), .lit (.int .u8 29), .lit (.int .u8 17), .lit (.int .u8 4), .lit (.int .u8 62), .lit (.int .u8 47), .lit (.int .u8 59), .lit (.int .u8 36), .lit (.int .u8 45), .lit (.int .u8 43), .lit (.int .u8 51), .lit (.int .u8 22), .lit (.int .u8 53), .lit (.int .u8 39), .lit (.int .u8 33), .lit (.int .u8 30), .lit (.int .u8 24), .lit (.int .u8 18), .lit (.int .u8 12), .lit (.int .u8 5), .lit (.int .u8 63), .lit (.int .u8 55), .lit (.int .u8 48), .lit (.int .u8 27), .lit (.int .u8 60), .lit (.int .u8 41), .lit (.int .u8 37), .lit (.int .u8 16), .lit (.int .u8 46), .lit (.int .u8 35), .lit (.int .u8 44), .lit (.int .u8 21), .lit (.int .u8 52), .lit (.int .u8 32), .lit (.int .u8 23), .lit (.int .u8 11), .lit (.int .u8 54), .lit (.int .u8 26), .lit (.int .u8 40), .lit (.int .u8 15), .lit (.int .u8 34), .lit (.int .u8 20), .lit (.int .u8 31), .lit (.int .u8 10), .lit (.int .u8 25), .lit (.int .u8 14), .lit (.int .u8 19), .lit (.int .u8 9), .lit (.int .u8 13), .lit (.int .u8 8), .lit (.int .u8 7), .lit (.int .u8 6)]
def laid_internal_strconv_uint64pow10 {H : Type} : DataW H := .agg [.lit (.int .u64 1), .lit (.int .u64 10), .lit (.int .u64 100), .lit (.int .u64 1000), .lit (.int .u64 10000), .lit (.int .u64 100000), .lit (.int .u64 1000000), .lit (.int .u64 10000000), .lit (.int .u64 100000000), .lit (.int .u64 1000000000), .lit (.int .u64 10000000000), .lit (.int .u64 100000000000), .lit (.int .u64 1000000000000), .lit (.int .u64 10000000000000), .lit (.int .u64 100000000000000), .lit (.int .u64 1000000000000000), .lit (.int .u64 10000000000000000), .lit (.int .u64 100000000000000000), .lit (.int .u64 1000000000000000000), .lit (.int .u64 10000000000000000000)]

/-- 'rubricatorlaw20.PlanHolds': WHATEVER THE INPUT: true; the input reads as it did. -/
def planHoldsSpec : ChangeSpec := { name := "planHolds", fn := fun _ => fun
  | [d1, d2, d3, d4] => { results := [.lit (.bool true)], args := [d1, d2, d3, d4] }
  | _ => none }
def planHoldsRow : OpenClaim := { program := "ytocjlbpehfpdoaagreatdoor", sum := "bd77d221e37df66e757b006e64339e870bb3e33bf9c613efb65a91927fc5455c", func := "rubricator/rubricatorlaw20.PlanHolds", spec := "planHolds", inPlace := ["internal/bytealg.IndexByteString", "internal/bytealg.IndexString", "internal/abi.NoEscape", "internal/bytealg.MakeNoZero", "slices.overlaps[string]", "slices.overlaps[rubricator/json.Value]", "internal/bytealg.CountString"], unfollowed := true, recurses := true, named := ["unicode/utf8.first", "unicode/utf8.acceptRanges", "unicode.CaseRanges", "internal/bytealg.MaxLen", "rubricator/order.kinds"], apart := false, laid := [("unicode/utf8.acceptRanges", laid_unicode_utf8_acceptRanges), ("rubricator/order.kinds", laid_rubricator_order_kinds), ("unicode.CaseRanges", laid_unicode_CaseRanges), ("unicode/utf8.first", laid_unicode_utf8_first)] }
def PlanHoldsSaid : Prop := planHoldsRow.holds Tryz.pinned (OpenSpec.ofChange planHoldsSpec)

/-- ITS FALSE NEIGHBOUR: 'it returns false'. Refute it at one input. -/
def planHoldsWrong : ChangeSpec := { name := "planHolds", fn := fun _ => fun
  | [d1, d2, d3, d4] => { results := [.lit (.bool false)], args := [d1, d2, d3, d4] }
  | _ => none }
def PlanHoldsWrongFalsely : Prop := planHoldsRow.holds Tryz.pinned (OpenSpec.ofChange planHoldsWrong)

/-- 'rubricatorlaw18.PathAlone': WHATEVER THE INPUT: true; the input reads as it did. -/
def pathAloneSpec : ChangeSpec := { name := "pathAlone", fn := fun _ => fun
  | [d1, d2] => { results := [.lit (.bool true)], args := [d1, d2] }
  | _ => none }
def pathAloneRow : OpenClaim := { program := "ytocjlbpehfpdoaagreatdoor", sum := "bd77d221e37df66e757b006e64339e870bb3e33bf9c613efb65a91927fc5455c", func := "rubricator/rubricatorlaw18.PathAlone", spec := "pathAlone", inPlace := ["internal/bytealg.IndexByteString", "internal/bytealg.IndexString", "internal/abi.NoEscape", "internal/bytealg.MakeNoZero", "slices.overlaps[string]", "slices.overlaps[rubricator/json.Value]", "internal/bytealg.CountString", "internal/bytealg.abigen_runtime_cmpstring"], unfollowed := true, recurses := true, named := ["unicode/utf8.first", "unicode/utf8.acceptRanges", "unicode.CaseRanges", "internal/bytealg.MaxLen", "internal/strconv.uint64pow10", "math/bits.deBruijn32tab", "math/bits.deBruijn64tab"], apart := false, laid := [("math/bits.deBruijn32tab", laid_math_bits_deBruijn32tab), ("math/bits.deBruijn64tab", laid_math_bits_deBruijn64tab), ("internal/strconv.uint64pow10", laid_internal_strconv_uint64pow10), ("unicode/utf8.acceptRanges", laid_unicode_utf8_acceptRanges), ("unicode.CaseRanges", laid_unicode_CaseRanges), ("unicode/utf8.first", laid_unicode_utf8_first)] }
def PathAloneSaid : Prop := pathAloneRow.holds Tryz.pinned (OpenSpec.ofChange pathAloneSpec)

/-- ITS FALSE NEIGHBOUR: 'it returns false'. Refute it at one input. -/
def pathAloneWrong : ChangeSpec := { name := "pathAlone", fn := fun _ => fun
  | [d1, d2] => { results := [.lit (.bool false)], args := [d1, d2] }
  | _ => none }
def PathAloneWrongFalsely : Prop := pathAloneRow.holds Tryz.pinned (OpenSpec.ofChange pathAloneWrong)

/-- 'rubricatorlaw16.BinPuts': WHATEVER THE INPUT: true; the input reads as it did. -/
def binPutsSpec : ChangeSpec := { name := "binPuts", fn := fun _ => fun
  | [d] => { results := [.lit (.bool true)], args := [d] }
  | _ => none }
def binPutsRow : OpenClaim := { program := "ytocjlbpehfpdoaagreatdoor", sum := "bd77d221e37df66e757b006e64339e870bb3e33bf9c613efb65a91927fc5455c", func := "rubricator/rubricatorlaw16.BinPuts", spec := "binPuts", inPlace := ["internal/bytealg.IndexByteString", "internal/bytealg.IndexString", "internal/abi.NoEscape", "internal/bytealg.MakeNoZero", "slices.overlaps[string]", "slices.overlaps[rubricator/json.Value]"], unfollowed := true, recurses := true, named := ["unicode/utf8.first", "unicode/utf8.acceptRanges", "unicode.CaseRanges", "internal/bytealg.MaxLen", "internal/strconv.uint64pow10", "math/bits.deBruijn32tab", "math/bits.deBruijn64tab"], apart := false, laid := [("math/bits.deBruijn32tab", laid_math_bits_deBruijn32tab), ("math/bits.deBruijn64tab", laid_math_bits_deBruijn64tab), ("internal/strconv.uint64pow10", laid_internal_strconv_uint64pow10), ("unicode/utf8.acceptRanges", laid_unicode_utf8_acceptRanges), ("unicode.CaseRanges", laid_unicode_CaseRanges), ("unicode/utf8.first", laid_unicode_utf8_first)] }
def BinPutsSaid : Prop := binPutsRow.holds Tryz.pinned (OpenSpec.ofChange binPutsSpec)

/-- ITS FALSE NEIGHBOUR: 'it returns false'. Refute it at one input. -/
def binPutsWrong : ChangeSpec := { name := "binPuts", fn := fun _ => fun
  | [d] => { results := [.lit (.bool false)], args := [d] }
  | _ => none }
def BinPutsWrongFalsely : Prop := binPutsRow.holds Tryz.pinned (OpenSpec.ofChange binPutsWrong)

/-- 'rubricatorlaw16.BinGets': WHATEVER THE INPUT: true; the input reads as it did. -/
def binGetsSpec : ChangeSpec := { name := "binGets", fn := fun _ => fun
  | [d1, d2, d3, d4] => { results := [.lit (.bool true)], args := [d1, d2, d3, d4] }
  | _ => none }
def binGetsRow : OpenClaim := { program := "ytocjlbpehfpdoaagreatdoor", sum := "bd77d221e37df66e757b006e64339e870bb3e33bf9c613efb65a91927fc5455c", func := "rubricator/rubricatorlaw16.BinGets", spec := "binGets", inPlace := ["internal/bytealg.IndexByteString", "internal/bytealg.IndexString", "internal/abi.NoEscape", "internal/bytealg.MakeNoZero", "slices.overlaps[string]", "slices.overlaps[rubricator/json.Value]"], unfollowed := true, recurses := true, named := ["unicode/utf8.first", "unicode/utf8.acceptRanges", "unicode.CaseRanges", "internal/bytealg.MaxLen", "internal/strconv.uint64pow10", "math/bits.deBruijn32tab", "math/bits.deBruijn64tab"], apart := false, laid := [("math/bits.deBruijn32tab", laid_math_bits_deBruijn32tab), ("math/bits.deBruijn64tab", laid_math_bits_deBruijn64tab), ("internal/strconv.uint64pow10", laid_internal_strconv_uint64pow10), ("unicode/utf8.acceptRanges", laid_unicode_utf8_acceptRanges), ("unicode.CaseRanges", laid_unicode_CaseRanges), ("unicode/utf8.first", laid_unicode_utf8_first)] }
def BinGetsSaid : Prop := binGetsRow.holds Tryz.pinned (OpenSpec.ofChange binGetsSpec)

/-- ITS FALSE NEIGHBOUR: 'it returns false'. Refute it at one input. -/
def binGetsWrong : ChangeSpec := { name := "binGets", fn := fun _ => fun
  | [d1, d2, d3, d4] => { results := [.lit (.bool false)], args := [d1, d2, d3, d4] }
  | _ => none }
def BinGetsWrongFalsely : Prop := binGetsRow.holds Tryz.pinned (OpenSpec.ofChange binGetsWrong)

/-- 'rubricatorlaw16.BinRight': WHATEVER THE INPUT: true; the input reads as it did. -/
def binRightSpec : ChangeSpec := { name := "binRight", fn := fun _ => fun
  | [d1, d2, d3, d4, d5] => { results := [.lit (.bool true)], args := [d1, d2, d3, d4, d5] }
  | _ => none }
def binRightRow : OpenClaim := { program := "ytocjlbpehfpdoaagreatdoor", sum := "bd77d221e37df66e757b006e64339e870bb3e33bf9c613efb65a91927fc5455c", func := "rubricator/rubricatorlaw16.BinRight", spec := "binRight", inPlace := ["internal/bytealg.IndexByteString", "internal/bytealg.IndexString", "internal/abi.NoEscape", "internal/bytealg.MakeNoZero", "slices.overlaps[string]", "slices.overlaps[rubricator/json.Value]"], unfollowed := true, recurses := true, named := ["unicode/utf8.first", "unicode/utf8.acceptRanges", "unicode.CaseRanges", "internal/bytealg.MaxLen", "internal/strconv.uint64pow10", "math/bits.deBruijn32tab", "math/bits.deBruijn64tab"], apart := false, laid := [("math/bits.deBruijn32tab", laid_math_bits_deBruijn32tab), ("math/bits.deBruijn64tab", laid_math_bits_deBruijn64tab), ("internal/strconv.uint64pow10", laid_internal_strconv_uint64pow10), ("unicode/utf8.acceptRanges", laid_unicode_utf8_acceptRanges), ("unicode.CaseRanges", laid_unicode_CaseRanges), ("unicode/utf8.first", laid_unicode_utf8_first)] }
def BinRightSaid : Prop := binRightRow.holds Tryz.pinned (OpenSpec.ofChange binRightSpec)

/-- ITS FALSE NEIGHBOUR: 'it returns false'. Refute it at one input. -/
def binRightWrong : ChangeSpec := { name := "binRight", fn := fun _ => fun
  | [d1, d2, d3, d4, d5] => { results := [.lit (.bool false)], args := [d1, d2, d3, d4, d5] }
  | _ => none }
def BinRightWrongFalsely : Prop := binRightRow.holds Tryz.pinned (OpenSpec.ofChange binRightWrong)

/-- 'rubricatorlaw16.BinCuts': WHATEVER THE INPUT: true; the input reads as it did. -/
def binCutsSpec : ChangeSpec := { name := "binCuts", fn := fun _ => fun
  | [d1, d2, d3] => { results := [.lit (.bool true)], args := [d1, d2, d3] }
  | _ => none }
def binCutsRow : OpenClaim := { program := "ytocjlbpehfpdoaagreatdoor", sum := "bd77d221e37df66e757b006e64339e870bb3e33bf9c613efb65a91927fc5455c", func := "rubricator/rubricatorlaw16.BinCuts", spec := "binCuts", inPlace := ["internal/bytealg.IndexByteString", "internal/bytealg.IndexString", "internal/abi.NoEscape", "internal/bytealg.MakeNoZero", "slices.overlaps[string]", "slices.overlaps[rubricator/json.Value]"], unfollowed := true, recurses := true, named := ["unicode/utf8.first", "unicode/utf8.acceptRanges", "unicode.CaseRanges", "internal/bytealg.MaxLen", "internal/strconv.uint64pow10", "math/bits.deBruijn32tab", "math/bits.deBruijn64tab"], apart := false, laid := [("math/bits.deBruijn32tab", laid_math_bits_deBruijn32tab), ("math/bits.deBruijn64tab", laid_math_bits_deBruijn64tab), ("internal/strconv.uint64pow10", laid_internal_strconv_uint64pow10), ("unicode/utf8.acceptRanges", laid_unicode_utf8_acceptRanges), ("unicode.CaseRanges", laid_unicode_CaseRanges), ("unicode/utf8.first", laid_unicode_utf8_first)] }
def BinCutsSaid : Prop := binCutsRow.holds Tryz.pinned (OpenSpec.ofChange binCutsSpec)

/-- ITS FALSE NEIGHBOUR: 'it returns false'. Refute it at one input. -/
def binCutsWrong : ChangeSpec := { name := "binCuts", fn := fun _ => fun
  | [d1, d2, d3] => { results := [.lit (.bool false)], args := [d1, d2, d3] }
  | _ => none }
def BinCutsWrongFalsely : Prop := binCutsRow.holds Tryz.pinned (OpenSpec.ofChange binCutsWrong)

/-- 'rubricatorlaw16.BinAlike': WHATEVER THE INPUT: true; the input reads as it did. -/
def binAlikeSpec : ChangeSpec := { name := "binAlike", fn := fun _ => fun
  | [d1, d2] => { results := [.lit (.bool true)], args := [d1, d2] }
  | _ => none }
def binAlikeRow : OpenClaim := { program := "ytocjlbpehfpdoaagreatdoor", sum := "bd77d221e37df66e757b006e64339e870bb3e33bf9c613efb65a91927fc5455c", func := "rubricator/rubricatorlaw16.BinAlike", spec := "binAlike", inPlace := ["internal/bytealg.IndexByteString", "internal/bytealg.IndexString", "internal/abi.NoEscape", "internal/bytealg.MakeNoZero", "slices.overlaps[string]", "slices.overlaps[rubricator/json.Value]", "internal/bytealg.abigen_runtime_cmpstring"], unfollowed := true, recurses := true, named := ["unicode/utf8.first", "unicode/utf8.acceptRanges", "unicode.CaseRanges", "internal/bytealg.MaxLen", "internal/strconv.uint64pow10", "math/bits.deBruijn32tab", "math/bits.deBruijn64tab"], apart := false, laid := [("math/bits.deBruijn32tab", laid_math_bits_deBruijn32tab), ("math/bits.deBruijn64tab", laid_math_bits_deBruijn64tab), ("internal/strconv.uint64pow10", laid_internal_strconv_uint64pow10), ("unicode/utf8.acceptRanges", laid_unicode_utf8_acceptRanges), ("unicode.CaseRanges", laid_unicode_CaseRanges), ("unicode/utf8.first", laid_unicode_utf8_first)] }
def BinAlikeSaid : Prop := binAlikeRow.holds Tryz.pinned (OpenSpec.ofChange binAlikeSpec)

/-- ITS FALSE NEIGHBOUR: 'it returns false'. Refute it at one input. -/
def binAlikeWrong : ChangeSpec := { name := "binAlike", fn := fun _ => fun
  | [d1, d2] => { results := [.lit (.bool false)], args := [d1, d2] }
  | _ => none }
def BinAlikeWrongFalsely : Prop := binAlikeRow.holds Tryz.pinned (OpenSpec.ofChange binAlikeWrong)

/-- 'rubricatorlaw21.CatalogOrders': WHATEVER THE INPUT: true; the input reads as it did. -/
def catalogOrdersSpec : ChangeSpec := { name := "catalogOrders", fn := fun _ => fun
  | [d1, d2] => { results := [.lit (.bool true)], args := [d1, d2] }
  | _ => none }
def catalogOrdersRow : OpenClaim := { program := "ytocjlbpehfpdoaagreatdoor", sum := "bd77d221e37df66e757b006e64339e870bb3e33bf9c613efb65a91927fc5455c", func := "rubricator/rubricatorlaw21.CatalogOrders", spec := "catalogOrders", inPlace := ["internal/bytealg.CountString", "internal/bytealg.IndexByteString", "internal/bytealg.IndexString", "internal/abi.NoEscape", "internal/bytealg.MakeNoZero", "slices.overlaps[string]", "slices.overlaps[rubricator/json.Value]", "internal/bytealg.Compare"], unfollowed := true, recurses := true, named := ["unicode/utf8.first", "unicode/utf8.acceptRanges", "internal/bytealg.MaxLen", "unicode.CaseRanges", "rubricator/order.kinds"], apart := false, laid := [("unicode/utf8.acceptRanges", laid_unicode_utf8_acceptRanges), ("rubricator/order.kinds", laid_rubricator_order_kinds), ("unicode.CaseRanges", laid_unicode_CaseRanges), ("unicode/utf8.first", laid_unicode_utf8_first)] }
def CatalogOrdersSaid : Prop := catalogOrdersRow.holds Tryz.pinned (OpenSpec.ofChange catalogOrdersSpec)

/-- ITS FALSE NEIGHBOUR: 'it returns false'. Refute it at one input. -/
def catalogOrdersWrong : ChangeSpec := { name := "catalogOrders", fn := fun _ => fun
  | [d1, d2] => { results := [.lit (.bool false)], args := [d1, d2] }
  | _ => none }
def CatalogOrdersWrongFalsely : Prop := catalogOrdersRow.holds Tryz.pinned (OpenSpec.ofChange catalogOrdersWrong)

/-- 'rubricatorlaw21.CatalogStands': WHATEVER THE INPUT: true; the input reads as it did. -/
def catalogStandsSpec : ChangeSpec := { name := "catalogStands", fn := fun _ => fun
  | [d1, d2, d3, d4, d5] => { results := [.lit (.bool true)], args := [d1, d2, d3, d4, d5] }
  | _ => none }
def catalogStandsRow : OpenClaim := { program := "ytocjlbpehfpdoaagreatdoor", sum := "bd77d221e37df66e757b006e64339e870bb3e33bf9c613efb65a91927fc5455c", func := "rubricator/rubricatorlaw21.CatalogStands", spec := "catalogStands", inPlace := ["internal/bytealg.CountString", "internal/bytealg.IndexByteString", "internal/bytealg.IndexString", "internal/abi.NoEscape", "internal/bytealg.MakeNoZero", "slices.overlaps[string]", "slices.overlaps[rubricator/json.Value]", "internal/bytealg.Compare", "internal/bytealg.abigen_runtime_cmpstring"], unfollowed := true, recurses := true, named := ["unicode/utf8.first", "unicode/utf8.acceptRanges", "internal/bytealg.MaxLen", "unicode.CaseRanges", "rubricator/order.kinds"], apart := false, laid := [("unicode/utf8.acceptRanges", laid_unicode_utf8_acceptRanges), ("rubricator/order.kinds", laid_rubricator_order_kinds), ("unicode.CaseRanges", laid_unicode_CaseRanges), ("unicode/utf8.first", laid_unicode_utf8_first)] }
def CatalogStandsSaid : Prop := catalogStandsRow.holds Tryz.pinned (OpenSpec.ofChange catalogStandsSpec)

/-- ITS FALSE NEIGHBOUR: 'it returns false'. Refute it at one input. -/
def catalogStandsWrong : ChangeSpec := { name := "catalogStands", fn := fun _ => fun
  | [d1, d2, d3, d4, d5] => { results := [.lit (.bool false)], args := [d1, d2, d3, d4, d5] }
  | _ => none }
def CatalogStandsWrongFalsely : Prop := catalogStandsRow.holds Tryz.pinned (OpenSpec.ofChange catalogStandsWrong)

/- THE SECOND FORM. 'bulk': how many values and letters a reading holds, each counted each time it is reached (what is shared counts as often as it is met; a slice's spare places count too). A statement '..UptoSaid' is the law's where the arguments, and the package variables that the reading takes, are together of bulk at most 1048576: NARROWER than '..Said'. Prove '..Said' where nothing that the law and all that it calls make is longer than what came in: it says more and counts as full. Else prove '..UptoSaid'. A law counts once. -/
mutual
def uptoBulk {H : Type} : DataW H → Nat
  | .lit (.string bytes) => bytes.length + 1
  | .lit _ => 1
  | .nil => 1
  | .ptr d => uptoBulk d + 1
  | .slice elems spare => uptoBulkAll elems + uptoBulkAll spare + 1
  | .agg parts => uptoBulkAll parts + 1
  | .iface _ d => uptoBulk d + 1
  | .map entries => uptoBulkEntries entries + 1
  | .held _ => 1
def uptoBulkAll {H : Type} : List (DataW H) → Nat
  | [] => 0
  | d :: r => uptoBulk d + uptoBulkAll r
def uptoBulkEntries {H : Type} : List (Lit × DataW H) → Nat
  | [] => 0
  | x :: r => uptoBulkEntry x + uptoBulkEntries r
def uptoBulkEntry {H : Type} : Lit × DataW H → Nat
  | (.string bytes, d) => bytes.length + uptoBulk d + 1
  | (_, d) => uptoBulk d + 1
 end
def uptoSmall : (H : Type) → List (DataW H) → Bool := fun _ ds => decide (uptoBulkAll ds ≤ 1048576)
def OpenSpec.upto (s : _root_.Go.ChangeSpec) : _root_.Go.OpenSpec := { _root_.Go.OpenSpec.ofChange s with cond := some uptoSmall }

/-- 'rubricatorlaw20.PlanHolds', WHERE WHAT IT READS IS OF BULK AT MOST 1048576: true; the input reads as it did. -/
def planHoldsUptoRow : OpenClaim := { program := "ytocjlbpehfpdoaagreatdoor", sum := "bd77d221e37df66e757b006e64339e870bb3e33bf9c613efb65a91927fc5455c", func := "rubricator/rubricatorlaw20.PlanHolds", spec := "planHolds", inPlace := ["internal/bytealg.IndexByteString", "internal/bytealg.IndexString", "internal/abi.NoEscape", "internal/bytealg.MakeNoZero", "slices.overlaps[string]", "slices.overlaps[rubricator/json.Value]", "internal/bytealg.CountString"], unfollowed := true, recurses := true, named := ["unicode/utf8.first", "unicode/utf8.acceptRanges", "unicode.CaseRanges", "internal/bytealg.MaxLen", "rubricator/order.kinds"], apart := false, laid := [("unicode/utf8.acceptRanges", laid_unicode_utf8_acceptRanges), ("rubricator/order.kinds", laid_rubricator_order_kinds), ("unicode.CaseRanges", laid_unicode_CaseRanges), ("unicode/utf8.first", laid_unicode_utf8_first)], narrowed := true }
def PlanHoldsUptoSaid : Prop := planHoldsUptoRow.holds Tryz.pinned (OpenSpec.upto planHoldsSpec)

/-- 'rubricatorlaw18.PathAlone', WHERE WHAT IT READS IS OF BULK AT MOST 1048576: true; the input reads as it did. -/
def pathAloneUptoRow : OpenClaim := { program := "ytocjlbpehfpdoaagreatdoor", sum := "bd77d221e37df66e757b006e64339e870bb3e33bf9c613efb65a91927fc5455c", func := "rubricator/rubricatorlaw18.PathAlone", spec := "pathAlone", inPlace := ["internal/bytealg.IndexByteString", "internal/bytealg.IndexString", "internal/abi.NoEscape", "internal/bytealg.MakeNoZero", "slices.overlaps[string]", "slices.overlaps[rubricator/json.Value]", "internal/bytealg.CountString", "internal/bytealg.abigen_runtime_cmpstring"], unfollowed := true, recurses := true, named := ["unicode/utf8.first", "unicode/utf8.acceptRanges", "unicode.CaseRanges", "internal/bytealg.MaxLen", "internal/strconv.uint64pow10", "math/bits.deBruijn32tab", "math/bits.deBruijn64tab"], apart := false, laid := [("math/bits.deBruijn32tab", laid_math_bits_deBruijn32tab), ("math/bits.deBruijn64tab", laid_math_bits_deBruijn64tab), ("internal/strconv.uint64pow10", laid_internal_strconv_uint64pow10), ("unicode/utf8.acceptRanges", laid_unicode_utf8_acceptRanges), ("unicode.CaseRanges", laid_unicode_CaseRanges), ("unicode/utf8.first", laid_unicode_utf8_first)], narrowed := true }
def PathAloneUptoSaid : Prop := pathAloneUptoRow.holds Tryz.pinned (OpenSpec.upto pathAloneSpec)

/-- 'rubricatorlaw16.BinPuts', WHERE WHAT IT READS IS OF BULK AT MOST 1048576: true; the input reads as it did. -/
def binPutsUptoRow : OpenClaim := { program := "ytocjlbpehfpdoaagreatdoor", sum := "bd77d221e37df66e757b006e64339e870bb3e33bf9c613efb65a91927fc5455c", func := "rubricator/rubricatorlaw16.BinPuts", spec := "binPuts", inPlace := ["internal/bytealg.IndexByteString", "internal/bytealg.IndexString", "internal/abi.NoEscape", "internal/bytealg.MakeNoZero", "slices.overlaps[string]", "slices.overlaps[rubricator/json.Value]"], unfollowed := true, recurses := true, named := ["unicode/utf8.first", "unicode/utf8.acceptRanges", "unicode.CaseRanges", "internal/bytealg.MaxLen", "internal/strconv.uint64pow10", "math/bits.deBruijn32tab", "math/bits.deBruijn64tab"], apart := false, laid := [("math/bits.deBruijn32tab", laid_math_bits_deBruijn32tab), ("math/bits.deBruijn64tab", laid_math_bits_deBruijn64tab), ("internal/strconv.uint64pow10", laid_internal_strconv_uint64pow10), ("unicode/utf8.acceptRanges", laid_unicode_utf8_acceptRanges), ("unicode.CaseRanges", laid_unicode_CaseRanges), ("unicode/utf8.first", laid_unicode_utf8_first)], narrowed := true }
def BinPutsUptoSaid : Prop := binPutsUptoRow.holds Tryz.pinned (OpenSpec.upto binPutsSpec)

/-- 'rubricatorlaw16.BinGets', WHERE WHAT IT READS IS OF BULK AT MOST 1048576: true; the input reads as it did. -/
def binGetsUptoRow : OpenClaim := { program := "ytocjlbpehfpdoaagreatdoor", sum := "bd77d221e37df66e757b006e64339e870bb3e33bf9c613efb65a91927fc5455c", func := "rubricator/rubricatorlaw16.BinGets", spec := "binGets", inPlace := ["internal/bytealg.IndexByteString", "internal/bytealg.IndexString", "internal/abi.NoEscape", "internal/bytealg.MakeNoZero", "slices.overlaps[string]", "slices.overlaps[rubricator/json.Value]"], unfollowed := true, recurses := true, named := ["unicode/utf8.first", "unicode/utf8.acceptRanges", "unicode.CaseRanges", "internal/bytealg.MaxLen", "internal/strconv.uint64pow10", "math/bits.deBruijn32tab", "math/bits.deBruijn64tab"], apart := false, laid := [("math/bits.deBruijn32tab", laid_math_bits_deBruijn32tab), ("math/bits.deBruijn64tab", laid_math_bits_deBruijn64tab), ("internal/strconv.uint64pow10", laid_internal_strconv_uint64pow10), ("unicode/utf8.acceptRanges", laid_unicode_utf8_acceptRanges), ("unicode.CaseRanges", laid_unicode_CaseRanges), ("unicode/utf8.first", laid_unicode_utf8_first)], narrowed := true }
def BinGetsUptoSaid : Prop := binGetsUptoRow.holds Tryz.pinned (OpenSpec.upto binGetsSpec)

/-- 'rubricatorlaw16.BinRight', WHERE WHAT IT READS IS OF BULK AT MOST 1048576: true; the input reads as it did. -/
def binRightUptoRow : OpenClaim := { program := "ytocjlbpehfpdoaagreatdoor", sum := "bd77d221e37df66e757b006e64339e870bb3e33bf9c613efb65a91927fc5455c", func := "rubricator/rubricatorlaw16.BinRight", spec := "binRight", inPlace := ["internal/bytealg.IndexByteString", "internal/bytealg.IndexString", "internal/abi.NoEscape", "internal/bytealg.MakeNoZero", "slices.overlaps[string]", "slices.overlaps[rubricator/json.Value]"], unfollowed := true, recurses := true, named := ["unicode/utf8.first", "unicode/utf8.acceptRanges", "unicode.CaseRanges", "internal/bytealg.MaxLen", "internal/strconv.uint64pow10", "math/bits.deBruijn32tab", "math/bits.deBruijn64tab"], apart := false, laid := [("math/bits.deBruijn32tab", laid_math_bits_deBruijn32tab), ("math/bits.deBruijn64tab", laid_math_bits_deBruijn64tab), ("internal/strconv.uint64pow10", laid_internal_strconv_uint64pow10), ("unicode/utf8.acceptRanges", laid_unicode_utf8_acceptRanges), ("unicode.CaseRanges", laid_unicode_CaseRanges), ("unicode/utf8.first", laid_unicode_utf8_first)], narrowed := true }
def BinRightUptoSaid : Prop := binRightUptoRow.holds Tryz.pinned (OpenSpec.upto binRightSpec)

/-- 'rubricatorlaw16.BinCuts', WHERE WHAT IT READS IS OF BULK AT MOST 1048576: true; the input reads as it did. -/
def binCutsUptoRow : OpenClaim := { program := "ytocjlbpehfpdoaagreatdoor", sum := "bd77d221e37df66e757b006e64339e870bb3e33bf9c613efb65a91927fc5455c", func := "rubricator/rubricatorlaw16.BinCuts", spec := "binCuts", inPlace := ["internal/bytealg.IndexByteString", "internal/bytealg.IndexString", "internal/abi.NoEscape", "internal/bytealg.MakeNoZero", "slices.overlaps[string]", "slices.overlaps[rubricator/json.Value]"], unfollowed := true, recurses := true, named := ["unicode/utf8.first", "unicode/utf8.acceptRanges", "unicode.CaseRanges", "internal/bytealg.MaxLen", "internal/strconv.uint64pow10", "math/bits.deBruijn32tab", "math/bits.deBruijn64tab"], apart := false, laid := [("math/bits.deBruijn32tab", laid_math_bits_deBruijn32tab), ("math/bits.deBruijn64tab", laid_math_bits_deBruijn64tab), ("internal/strconv.uint64pow10", laid_internal_strconv_uint64pow10), ("unicode/utf8.acceptRanges", laid_unicode_utf8_acceptRanges), ("unicode.CaseRanges", laid_unicode_CaseRanges), ("unicode/utf8.first", laid_unicode_utf8_first)], narrowed := true }
def BinCutsUptoSaid : Prop := binCutsUptoRow.holds Tryz.pinned (OpenSpec.upto binCutsSpec)

/-- 'rubricatorlaw16.BinAlike', WHERE WHAT IT READS IS OF BULK AT MOST 1048576: true; the input reads as it did. -/
def binAlikeUptoRow : OpenClaim := { program := "ytocjlbpehfpdoaagreatdoor", sum := "bd77d221e37df66e757b006e64339e870bb3e33bf9c613efb65a91927fc5455c", func := "rubricator/rubricatorlaw16.BinAlike", spec := "binAlike", inPlace := ["internal/bytealg.IndexByteString", "internal/bytealg.IndexString", "internal/abi.NoEscape", "internal/bytealg.MakeNoZero", "slices.overlaps[string]", "slices.overlaps[rubricator/json.Value]", "internal/bytealg.abigen_runtime_cmpstring"], unfollowed := true, recurses := true, named := ["unicode/utf8.first", "unicode/utf8.acceptRanges", "unicode.CaseRanges", "internal/bytealg.MaxLen", "internal/strconv.uint64pow10", "math/bits.deBruijn32tab", "math/bits.deBruijn64tab"], apart := false, laid := [("math/bits.deBruijn32tab", laid_math_bits_deBruijn32tab), ("math/bits.deBruijn64tab", laid_math_bits_deBruijn64tab), ("internal/strconv.uint64pow10", laid_internal_strconv_uint64pow10), ("unicode/utf8.acceptRanges", laid_unicode_utf8_acceptRanges), ("unicode.CaseRanges", laid_unicode_CaseRanges), ("unicode/utf8.first", laid_unicode_utf8_first)], narrowed := true }
def BinAlikeUptoSaid : Prop := binAlikeUptoRow.holds Tryz.pinned (OpenSpec.upto binAlikeSpec)

/-- 'rubricatorlaw21.CatalogOrders', WHERE WHAT IT READS IS OF BULK AT MOST 1048576: true; the input reads as it did. -/
def catalogOrdersUptoRow : OpenClaim := { program := "ytocjlbpehfpdoaagreatdoor", sum := "bd77d221e37df66e757b006e64339e870bb3e33bf9c613efb65a91927fc5455c", func := "rubricator/rubricatorlaw21.CatalogOrders", spec := "catalogOrders", inPlace := ["internal/bytealg.CountString", "internal/bytealg.IndexByteString", "internal/bytealg.IndexString", "internal/abi.NoEscape", "internal/bytealg.MakeNoZero", "slices.overlaps[string]", "slices.overlaps[rubricator/json.Value]", "internal/bytealg.Compare"], unfollowed := true, recurses := true, named := ["unicode/utf8.first", "unicode/utf8.acceptRanges", "internal/bytealg.MaxLen", "unicode.CaseRanges", "rubricator/order.kinds"], apart := false, laid := [("unicode/utf8.acceptRanges", laid_unicode_utf8_acceptRanges), ("rubricator/order.kinds", laid_rubricator_order_kinds), ("unicode.CaseRanges", laid_unicode_CaseRanges), ("unicode/utf8.first", laid_unicode_utf8_first)], narrowed := true }
def CatalogOrdersUptoSaid : Prop := catalogOrdersUptoRow.holds Tryz.pinned (OpenSpec.upto catalogOrdersSpec)

/-- 'rubricatorlaw21.CatalogStands', WHERE WHAT IT READS IS OF BULK AT MOST 1048576: true; the input reads as it did. -/
def catalogStandsUptoRow : OpenClaim := { program := "ytocjlbpehfpdoaagreatdoor", sum := "bd77d221e37df66e757b006e64339e870bb3e33bf9c613efb65a91927fc5455c", func := "rubricator/rubricatorlaw21.CatalogStands", spec := "catalogStands", inPlace := ["internal/bytealg.CountString", "internal/bytealg.IndexByteString", "internal/bytealg.IndexString", "internal/abi.NoEscape", "internal/bytealg.MakeNoZero", "slices.overlaps[string]", "slices.overlaps[rubricator/json.Value]", "internal/bytealg.Compare", "internal/bytealg.abigen_runtime_cmpstring"], unfollowed := true, recurses := true, named := ["unicode/utf8.first", "unicode/utf8.acceptRanges", "internal/bytealg.MaxLen", "unicode.CaseRanges", "rubricator/order.kinds"], apart := false, laid := [("unicode/utf8.acceptRanges", laid_unicode_utf8_acceptRanges), ("rubricator/order.kinds", laid_rubricator_order_kinds), ("unicode.CaseRanges", laid_unicode_CaseRanges), ("unicode/utf8.first", laid_unicode_utf8_first)], narrowed := true }
def CatalogStandsUptoSaid : Prop := catalogStandsUptoRow.holds Tryz.pinned (OpenSpec.upto catalogStandsSpec)

end Rows
end Go.Proofs.YtocjlbpehfpdoaaGreatDoor
