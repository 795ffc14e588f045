/-
  NARROWER THAN 'FOR EVERY INPUT', by the rows' own cells (each row's printed sentence says how): TopTwin: laid · TwinMerges: laid · TwinTells: laid · TwinSame: laid · TwinGoesOn: laid · TwinGone: laid.
  DERIVED. THE GIVEN ROWS OF THIS SEAT. 6 by the template 'for every input the law returns true; each argument reads behind the call as it read before'; 0 by the template 'total and deterministic' (their statements: YtcmmclliabhnjaaGreatDoorTotals.lean).
  GIVEN WITH THE SEED: the statements are not yours to turn. If you find one false, say at which input.
  Laid BY PROGRAM, IN A SANDBOX (cutbox-rows.mjs): the forced cells as the released guide's own fill.sh prints them over the translation e90f5223b5ffd0ae… (all of the seat's roots in one cut). By AI agents, Wed Nov 11 2026. No macro, syntax, notation, axiom, sorry.
-/
import Derived.Test.YtcmmclliabhnjaaGreatDoorChecked
import GoSem.PinnedTables
import GoSem.Claim
import GoSem.ClaimJoined
import GoSem.ClaimMapViews
import Derived.JoinedTies
import Derived.KernelRfl
namespace Go.Proofs.YtcmmclliabhnjaaGreatDoor
/- THE CELL 'sum', in the pinned program and in every row, IS THE sha256 OF THE DUMP (.gsa) THAT YtcmmclliabhnjaaGreatDoorProg.lean LOADS. Nothing in Lean hashes anything: it is a label: what it is worth is what the hold of that sum in a sandbox is worth. -/
noncomputable def Tryz.pinned : Pinned := { name := "ytcmmclliabhnjaagreatdoor", sum := "e90f5223b5ffd0ae46692d7235dbc61abc7dfb1050a4a4c2f2d4ae24ca97a001", checked := Tryz.checked }
namespace Rows
def none {H : Type} : Left H := { results := [], args := [] }

/- WHAT THE LISTED PACKAGE-LEVEL VARIABLES READ AS WHEN THE CALL BEGINS. Each datum BY PROGRAM (the guide's laid-datum.mjs) off the statement by which the dump's own 'gosem.cut.vars' lays the variable. In a bare row this is a premise. The card (YtcmmclliabhnjaaGreatDoorCards.lean) ties it to the program's text. -/
def laid_math_bits_deBruijn32tab {H : Type} : DataW H := .agg [.lit (.int .u8 0), .lit (.int .u8 1), .lit (.int .u8 28), .lit (.int .u8 2), .lit (.int .u8 29), .lit (.int .u8 14), .lit (.int .u8 24), .lit (.int .u8 3), .lit (.int .u8 30), .lit (.int .u8 22), .lit (.int .u8 20), .lit (.int .u8 15), .lit (.int .u8 25), .lit (.int .u8 17), .lit (.int .u8 4), .lit (.int .u8 8), .lit (.int .u8 31), .lit (.int .u8 27), .lit (.int .u8 13), .lit (.int .u8 23), .lit (.int .u8 21), .lit (.int .u8 19), .lit (.int .u8 16), .lit (.int .u8 7), .lit (.int .u8 26), .lit (.int .u8 12), .lit (.int .u8 18), .lit (.int .u8 6), .lit (.int .u8 11), .lit (.int .u8 5), .lit (.int .u8 10), .lit (.int .u8 9)]
def laid_math_bits_deBruijn64tab {H : Type} : DataW H := .agg [.lit (.int .u8 0), .lit (.int .u8 1), .lit (.int .u8 56), .lit (.int .u8 2), .lit (.int .u8 57), .lit (.int .u8 49), .lit (.int .u8 28), .lit (.int .u8 3), .lit (.int .u8 61), .lit (.int .u8 58), .lit (.int .u8 42), .lit (.int .u8 50), .lit (.int .u8 38), .lit (.int .u8 29), .lit (.int .u8 17), .lit (.int .u8 4), .lit (.int .u8 62), .lit (.int .u8 47), .lit (.int .u8 59), .lit (.int .u8 36), .lit (.int .u8 45), .lit (.int .u8 43), .lit (.int .u8 51), .lit (.int .u8 22), .lit (.int .u8 53), .lit (.int .u8 39), .lit (.int .u8 33), .lit (.int .u8 30), .lit (.int .u8 24), .lit (.int .u8 18), .lit (.int .u8 12), .lit (.int .u8 5), .lit (.int .u8 63), .lit (.int .u8 55), .lit (.int .u8 48), .lit (.int .u8 27), .lit (.int .u8 60), .lit (.int .u8 41), .lit (.int .u8 37), .lit (.int .u8 16), .lit (.int .u8 46), .lit (.int .u8 35), .lit (.int .u8 44), .lit (.int .u8 21), .lit (.int .u8 52), .lit (.int .u8 32), .lit (.int .u8 23), .lit (.int .u8 11), .lit (.int .u8 54), .lit (.int .u8 26), .lit (.int .u8 40), .lit (.int .u8 15), .lit (.int .u8 34), .lit (.int .u8 20), .lit (.int .u8 31), .lit (.int .u8 10), .lit (.int .u8 25), .lit (.int .u8 14), .lit (.int .u8 19), .lit (.int .u8 9), .lit (.int .u8 13), .lit (.int .u8 8), .lit (.int .u8 7), .lit (.int .u8 6)]
def laid_internal_strconv_uint64pow10 {H : Type} : DataW H := .agg [.lit (.int .u64 1), .lit (.int .u64 10), .lit (.int .u64 100), .lit (.int .u64 1000), .lit (.int .u64 10000), .lit (.int .u64 100000), .lit (.int .u64 1000000), .lit (.int .u64 10000000), .lit (.int .u64 100000000), .lit (.int .u64 1000000000), .lit (.int .u64 10000000000), .lit (.int .u64 100000000000), .lit (.int .u64 1000000000000), .lit (.int .u64 10000000000000), .lit (.int .u64 100000000000000), .lit (.int .u64 1000000000000000), .lit (.int .u64 10000000000000000), .lit (.int .u64 100000000000000000), .lit (.int .u64 1000000000000000000), .lit (.int .u64 10000000000000000000)]
def laid_unicode_utf8_acceptRanges {H : Type} : DataW H := .agg [.agg [.lit (.int .u8 128), .lit (.int .u8 191)], .agg [.lit (.int .u8 160), .lit (.int .u8 191)], .agg [.lit (.int .u8 128), .lit (.int .u8 159)], .agg [.lit (.int .u8 144), .lit (.int .u8 191)], .agg [.lit (.int .u8 128), .lit (.int .u8 143)], .agg [.lit (.int .u8 0), .lit (.int .u8 0)], .agg [.lit (.int .u8 0), .lit (.int .u8 0)], .agg [.lit (.int .u8 0), .lit (.int .u8 0)], .agg [.lit (.int .u8 0), .lit (.int .u8 0)], .agg [.lit (.int .u8 0), .lit (.int .u8 0)], .agg [.lit (.int .u8 0), .lit (.int .u8 0)], .agg [.lit (.int .u8 0), .lit (.int .u8 0)], .agg [.lit (.int .u8 0), .lit (.int .u8 0)], .agg [.lit (.int .u8 0), .lit (.int .u8 0)], .agg [.lit (.int .u8 0), .lit (.int .u8 0)], .agg [.lit (.int .u8 0), .lit (.int .u8 0)]]
def laid_strconv_ErrRange {H : Type} : DataW H := .iface "*errors.errorString" (.ptr (.agg [.lit (.string [118, 97, 108, 117, 101, 32, 111, 117, 116, 32, 111, 102, 32, 114, 97, 110, 103, 101])]))
def laid_strconv_ErrSyntax {H : Type} : DataW H := .iface "*errors.errorString" (.ptr (.agg [.lit (.string [105, 110, 118, 97, 108, 105, 100, 32, 115, 121, 110, 116, 97, 120])]))
def laid_cicerone_event_kindNames {H : Type} : DataW H := .agg [.lit (.string [115, 101, 101, 110]), .lit (.string [111, 112, 101, 110, 101, 100]), .lit (.string [102, 105, 110, 105, 115, 104, 101, 100]), .lit (.string [98, 111, 117, 103, 104, 116]), .lit (.string [114, 97, 116, 101, 100]), .lit (.string [104, 105, 100, 100, 101, 110]), .lit (.string [117, 110, 104, 105, 100, 100, 101, 110]), .lit (.string [102, 111, 108, 108, 111, 119, 101, 100]), .lit (.string [117, 110, 102, 111, 108, 108, 111, 119, 101, 100]), .lit (.string [109, 117, 116, 101, 100]), .lit (.string [117, 110, 109, 117, 116, 101, 100]), .lit (.string [108, 105, 115, 116, 101, 100]), .lit (.string [115, 116, 111, 99, 107, 101, 100]), .lit (.string [100, 101, 108, 105, 115, 116, 101, 100]), .lit (.string [102, 111, 114, 103, 111, 116, 116, 101, 110])]
def laid_cicerone_tale_kinds {H : Type} : DataW H := .agg [.lit (.int .i64 1), .lit (.int .i64 2), .lit (.int .i64 3), .lit (.int .i64 4), .lit (.int .i64 0), .lit (.int .i64 5), .lit (.int .i64 6), .lit (.int .i64 7), .lit (.int .i64 9), .lit (.int .i64 11), .lit (.int .i64 11), .lit (.int .i64 12), .lit (.int .i64 13)]
/-- One of Go's own tables, pinned by name: the form's constant. -/
def laid_unicode_utf8_first : DataW Unit := Go.Pinned.utf8First

/-- 'ciceronetop.TopTwin': WHATEVER THE INPUT: true; the input reads as it did. -/
def topTwinSpec : ChangeSpec := { name := "topTwin", fn := fun _ => fun
  | [d1, d2] => { results := [.lit (.bool true)], args := [d1, d2] }
  | _ => none }
def topTwinRow : OpenClaim := { program := "ytcmmclliabhnjaagreatdoor", sum := "e90f5223b5ffd0ae46692d7235dbc61abc7dfb1050a4a4c2f2d4ae24ca97a001", func := "cicerone/ciceronetop.TopTwin", spec := "topTwin", inPlace := ["internal/abi.NoEscape", "internal/bytealg.MakeNoZero", "internal/bytealg.IndexByteString", "internal/bytealg.IndexString", "internal/bytealg.CountString", "slices.overlaps[cicerone/dedupe.Range]", "internal/bytealg.abigen_runtime_cmpstring", "slices.overlaps[cicerone/api.Event]"], unfollowed := true, recurses := true, named := ["internal/strconv.uint64pow10", "math/bits.deBruijn32tab", "math/bits.deBruijn64tab", "cicerone/tale.kinds", "internal/bytealg.MaxLen", "unicode/utf8.first", "unicode/utf8.acceptRanges", "strconv.ErrSyntax", "strconv.ErrRange", "cicerone/event.kindNames"], plainKeys := false, apart := false, laid := [("math/bits.deBruijn32tab", laid_math_bits_deBruijn32tab), ("math/bits.deBruijn64tab", laid_math_bits_deBruijn64tab), ("internal/strconv.uint64pow10", laid_internal_strconv_uint64pow10), ("unicode/utf8.acceptRanges", laid_unicode_utf8_acceptRanges), ("strconv.ErrRange", laid_strconv_ErrRange), ("strconv.ErrSyntax", laid_strconv_ErrSyntax), ("cicerone/event.kindNames", laid_cicerone_event_kindNames), ("cicerone/tale.kinds", laid_cicerone_tale_kinds), ("unicode/utf8.first", laid_unicode_utf8_first)] }
def TopTwinSaid : Prop := topTwinRow.holds Tryz.pinned (OpenSpec.ofChange topTwinSpec)

/-- ITS FALSE NEIGHBOUR: 'it returns false'. Refute it at one input. -/
def topTwinWrong : ChangeSpec := { name := "topTwin", fn := fun _ => fun
  | [d1, d2] => { results := [.lit (.bool false)], args := [d1, d2] }
  | _ => none }
def TopTwinWrongFalsely : Prop := topTwinRow.holds Tryz.pinned (OpenSpec.ofChange topTwinWrong)

/-- 'ciceronelaw48.TwinMerges': WHATEVER THE INPUT: true; the input reads as it did. -/
def twinMergesSpec : ChangeSpec := { name := "twinMerges", fn := fun _ => fun
  | [d1, d2, d3, d4] => { results := [.lit (.bool true)], args := [d1, d2, d3, d4] }
  | _ => none }
def twinMergesRow : OpenClaim := { program := "ytcmmclliabhnjaagreatdoor", sum := "e90f5223b5ffd0ae46692d7235dbc61abc7dfb1050a4a4c2f2d4ae24ca97a001", func := "cicerone/ciceronelaw48.TwinMerges", spec := "twinMerges", inPlace := ["internal/bytealg.IndexByteString", "internal/bytealg.IndexString", "internal/bytealg.CountString", "slices.overlaps[cicerone/dedupe.Range]", "internal/bytealg.abigen_runtime_cmpstring", "slices.overlaps[cicerone/api.Event]", "internal/abi.NoEscape", "internal/bytealg.MakeNoZero"], unfollowed := true, recurses := true, named := ["internal/bytealg.MaxLen", "unicode/utf8.first", "unicode/utf8.acceptRanges", "internal/strconv.uint64pow10", "math/bits.deBruijn32tab", "math/bits.deBruijn64tab", "strconv.ErrSyntax", "strconv.ErrRange", "cicerone/event.kindNames"], plainKeys := false, apart := false, laid := [("math/bits.deBruijn32tab", laid_math_bits_deBruijn32tab), ("math/bits.deBruijn64tab", laid_math_bits_deBruijn64tab), ("internal/strconv.uint64pow10", laid_internal_strconv_uint64pow10), ("unicode/utf8.acceptRanges", laid_unicode_utf8_acceptRanges), ("strconv.ErrRange", laid_strconv_ErrRange), ("strconv.ErrSyntax", laid_strconv_ErrSyntax), ("cicerone/event.kindNames", laid_cicerone_event_kindNames), ("unicode/utf8.first", laid_unicode_utf8_first)] }
def TwinMergesSaid : Prop := twinMergesRow.holds Tryz.pinned (OpenSpec.ofChange twinMergesSpec)

/-- ITS FALSE NEIGHBOUR: 'it returns false'. Refute it at one input. -/
def twinMergesWrong : ChangeSpec := { name := "twinMerges", fn := fun _ => fun
  | [d1, d2, d3, d4] => { results := [.lit (.bool false)], args := [d1, d2, d3, d4] }
  | _ => none }
def TwinMergesWrongFalsely : Prop := twinMergesRow.holds Tryz.pinned (OpenSpec.ofChange twinMergesWrong)

/-- 'ciceronelaw48.TwinTells': WHATEVER THE INPUT: true; the input reads as it did. -/
def twinTellsSpec : ChangeSpec := { name := "twinTells", fn := fun _ => fun
  | [d1, d2, d3, d4, d5] => { results := [.lit (.bool true)], args := [d1, d2, d3, d4, d5] }
  | _ => none }
def twinTellsRow : OpenClaim := { program := "ytcmmclliabhnjaagreatdoor", sum := "e90f5223b5ffd0ae46692d7235dbc61abc7dfb1050a4a4c2f2d4ae24ca97a001", func := "cicerone/ciceronelaw48.TwinTells", spec := "twinTells", inPlace := ["internal/bytealg.IndexByteString", "internal/bytealg.IndexString", "internal/bytealg.CountString", "slices.overlaps[cicerone/dedupe.Range]", "internal/bytealg.abigen_runtime_cmpstring", "slices.overlaps[cicerone/api.Event]", "internal/abi.NoEscape", "internal/bytealg.MakeNoZero"], unfollowed := true, recurses := true, named := ["internal/bytealg.MaxLen", "unicode/utf8.first", "unicode/utf8.acceptRanges", "internal/strconv.uint64pow10", "math/bits.deBruijn32tab", "math/bits.deBruijn64tab", "strconv.ErrSyntax", "strconv.ErrRange", "cicerone/event.kindNames"], plainKeys := false, apart := false, laid := [("math/bits.deBruijn32tab", laid_math_bits_deBruijn32tab), ("math/bits.deBruijn64tab", laid_math_bits_deBruijn64tab), ("internal/strconv.uint64pow10", laid_internal_strconv_uint64pow10), ("unicode/utf8.acceptRanges", laid_unicode_utf8_acceptRanges), ("strconv.ErrRange", laid_strconv_ErrRange), ("strconv.ErrSyntax", laid_strconv_ErrSyntax), ("cicerone/event.kindNames", laid_cicerone_event_kindNames), ("unicode/utf8.first", laid_unicode_utf8_first)] }
def TwinTellsSaid : Prop := twinTellsRow.holds Tryz.pinned (OpenSpec.ofChange twinTellsSpec)

/-- ITS FALSE NEIGHBOUR: 'it returns false'. Refute it at one input. -/
def twinTellsWrong : ChangeSpec := { name := "twinTells", fn := fun _ => fun
  | [d1, d2, d3, d4, d5] => { results := [.lit (.bool false)], args := [d1, d2, d3, d4, d5] }
  | _ => none }
def TwinTellsWrongFalsely : Prop := twinTellsRow.holds Tryz.pinned (OpenSpec.ofChange twinTellsWrong)

/-- 'ciceronelaw48.TwinSame': WHATEVER THE INPUT: true; the input reads as it did. -/
def twinSameSpec : ChangeSpec := { name := "twinSame", fn := fun _ => fun
  | [d1, d2, d3, d4, d5] => { results := [.lit (.bool true)], args := [d1, d2, d3, d4, d5] }
  | _ => none }
def twinSameRow : OpenClaim := { program := "ytcmmclliabhnjaagreatdoor", sum := "e90f5223b5ffd0ae46692d7235dbc61abc7dfb1050a4a4c2f2d4ae24ca97a001", func := "cicerone/ciceronelaw48.TwinSame", spec := "twinSame", inPlace := ["internal/bytealg.IndexByteString", "internal/bytealg.IndexString", "internal/bytealg.CountString", "slices.overlaps[cicerone/dedupe.Range]", "internal/bytealg.abigen_runtime_cmpstring", "slices.overlaps[cicerone/api.Event]", "internal/abi.NoEscape", "internal/bytealg.MakeNoZero"], unfollowed := true, recurses := true, named := ["internal/bytealg.MaxLen", "unicode/utf8.first", "unicode/utf8.acceptRanges", "internal/strconv.uint64pow10", "math/bits.deBruijn32tab", "math/bits.deBruijn64tab", "strconv.ErrSyntax", "strconv.ErrRange", "cicerone/event.kindNames"], plainKeys := false, apart := false, laid := [("math/bits.deBruijn32tab", laid_math_bits_deBruijn32tab), ("math/bits.deBruijn64tab", laid_math_bits_deBruijn64tab), ("internal/strconv.uint64pow10", laid_internal_strconv_uint64pow10), ("unicode/utf8.acceptRanges", laid_unicode_utf8_acceptRanges), ("strconv.ErrRange", laid_strconv_ErrRange), ("strconv.ErrSyntax", laid_strconv_ErrSyntax), ("cicerone/event.kindNames", laid_cicerone_event_kindNames), ("unicode/utf8.first", laid_unicode_utf8_first)] }
def TwinSameSaid : Prop := twinSameRow.holds Tryz.pinned (OpenSpec.ofChange twinSameSpec)

/-- ITS FALSE NEIGHBOUR: 'it returns false'. Refute it at one input. -/
def twinSameWrong : ChangeSpec := { name := "twinSame", fn := fun _ => fun
  | [d1, d2, d3, d4, d5] => { results := [.lit (.bool false)], args := [d1, d2, d3, d4, d5] }
  | _ => none }
def TwinSameWrongFalsely : Prop := twinSameRow.holds Tryz.pinned (OpenSpec.ofChange twinSameWrong)

/-- 'ciceronelaw48.TwinGoesOn': WHATEVER THE INPUT: true; the input reads as it did. -/
def twinGoesOnSpec : ChangeSpec := { name := "twinGoesOn", fn := fun _ => fun
  | [d1, d2, d3, d4, d5, d6] => { results := [.lit (.bool true)], args := [d1, d2, d3, d4, d5, d6] }
  | _ => none }
def twinGoesOnRow : OpenClaim := { program := "ytcmmclliabhnjaagreatdoor", sum := "e90f5223b5ffd0ae46692d7235dbc61abc7dfb1050a4a4c2f2d4ae24ca97a001", func := "cicerone/ciceronelaw48.TwinGoesOn", spec := "twinGoesOn", inPlace := ["internal/bytealg.IndexByteString", "internal/bytealg.IndexString", "internal/bytealg.CountString", "slices.overlaps[cicerone/dedupe.Range]", "internal/bytealg.abigen_runtime_cmpstring", "slices.overlaps[cicerone/api.Event]", "internal/abi.NoEscape", "internal/bytealg.MakeNoZero"], unfollowed := true, recurses := true, named := ["internal/bytealg.MaxLen", "unicode/utf8.first", "unicode/utf8.acceptRanges", "internal/strconv.uint64pow10", "math/bits.deBruijn32tab", "math/bits.deBruijn64tab", "strconv.ErrSyntax", "strconv.ErrRange", "cicerone/event.kindNames"], plainKeys := false, apart := false, laid := [("math/bits.deBruijn32tab", laid_math_bits_deBruijn32tab), ("math/bits.deBruijn64tab", laid_math_bits_deBruijn64tab), ("internal/strconv.uint64pow10", laid_internal_strconv_uint64pow10), ("unicode/utf8.acceptRanges", laid_unicode_utf8_acceptRanges), ("strconv.ErrRange", laid_strconv_ErrRange), ("strconv.ErrSyntax", laid_strconv_ErrSyntax), ("cicerone/event.kindNames", laid_cicerone_event_kindNames), ("unicode/utf8.first", laid_unicode_utf8_first)] }
def TwinGoesOnSaid : Prop := twinGoesOnRow.holds Tryz.pinned (OpenSpec.ofChange twinGoesOnSpec)

/-- ITS FALSE NEIGHBOUR: 'it returns false'. Refute it at one input. -/
def twinGoesOnWrong : ChangeSpec := { name := "twinGoesOn", fn := fun _ => fun
  | [d1, d2, d3, d4, d5, d6] => { results := [.lit (.bool false)], args := [d1, d2, d3, d4, d5, d6] }
  | _ => none }
def TwinGoesOnWrongFalsely : Prop := twinGoesOnRow.holds Tryz.pinned (OpenSpec.ofChange twinGoesOnWrong)

/-- 'ciceronelaw48.TwinGone': WHATEVER THE INPUT: true; the input reads as it did. -/
def twinGoneSpec : ChangeSpec := { name := "twinGone", fn := fun _ => fun
  | [d1, d2, d3, d4] => { results := [.lit (.bool true)], args := [d1, d2, d3, d4] }
  | _ => none }
def twinGoneRow : OpenClaim := { program := "ytcmmclliabhnjaagreatdoor", sum := "e90f5223b5ffd0ae46692d7235dbc61abc7dfb1050a4a4c2f2d4ae24ca97a001", func := "cicerone/ciceronelaw48.TwinGone", spec := "twinGone", inPlace := ["internal/bytealg.IndexByteString", "internal/bytealg.IndexString", "internal/bytealg.CountString", "slices.overlaps[cicerone/dedupe.Range]", "internal/bytealg.abigen_runtime_cmpstring", "slices.overlaps[cicerone/api.Event]", "internal/abi.NoEscape", "internal/bytealg.MakeNoZero"], unfollowed := true, recurses := true, named := ["internal/bytealg.MaxLen", "unicode/utf8.first", "unicode/utf8.acceptRanges", "internal/strconv.uint64pow10", "math/bits.deBruijn32tab", "math/bits.deBruijn64tab", "strconv.ErrSyntax", "strconv.ErrRange", "cicerone/event.kindNames"], plainKeys := false, apart := false, laid := [("math/bits.deBruijn32tab", laid_math_bits_deBruijn32tab), ("math/bits.deBruijn64tab", laid_math_bits_deBruijn64tab), ("internal/strconv.uint64pow10", laid_internal_strconv_uint64pow10), ("unicode/utf8.acceptRanges", laid_unicode_utf8_acceptRanges), ("strconv.ErrRange", laid_strconv_ErrRange), ("strconv.ErrSyntax", laid_strconv_ErrSyntax), ("cicerone/event.kindNames", laid_cicerone_event_kindNames), ("unicode/utf8.first", laid_unicode_utf8_first)] }
def TwinGoneSaid : Prop := twinGoneRow.holds Tryz.pinned (OpenSpec.ofChange twinGoneSpec)

/-- ITS FALSE NEIGHBOUR: 'it returns false'. Refute it at one input. -/
def twinGoneWrong : ChangeSpec := { name := "twinGone", fn := fun _ => fun
  | [d1, d2, d3, d4] => { results := [.lit (.bool false)], args := [d1, d2, d3, d4] }
  | _ => none }
def TwinGoneWrongFalsely : Prop := twinGoneRow.holds Tryz.pinned (OpenSpec.ofChange twinGoneWrong)

/- THE SECOND FORM. 'bulk': how many values and letters a reading holds, each counted each time it is reached (what is shared counts as often as it is met; a slice's spare places count too). A statement '..UptoSaid' is the law's where the arguments, and the package variables that the reading takes, are together of bulk at most 1048576: NARROWER than '..Said'. Prove '..Said' where nothing that the law and all that it calls make is longer than what came in: it says more and counts as full. Else prove '..UptoSaid'. A law counts once. -/
mutual
def uptoBulk {H : Type} : DataW H → Nat
  | .lit (.string bytes) => bytes.length + 1
  | .lit _ => 1
  | .nil => 1
  | .ptr d => uptoBulk d + 1
  | .slice elems spare => uptoBulkAll elems + uptoBulkAll spare + 1
  | .agg parts => uptoBulkAll parts + 1
  | .iface _ d => uptoBulk d + 1
  | .map entries => uptoBulkEntries entries + 1
  | .held _ => 1
def uptoBulkAll {H : Type} : List (DataW H) → Nat
  | [] => 0
  | d :: r => uptoBulk d + uptoBulkAll r
def uptoBulkEntries {H : Type} : List (Lit × DataW H) → Nat
  | [] => 0
  | x :: r => uptoBulkEntry x + uptoBulkEntries r
def uptoBulkEntry {H : Type} : Lit × DataW H → Nat
  | (.string bytes, d) => bytes.length + uptoBulk d + 1
  | (_, d) => uptoBulk d + 1
 end
def uptoSmall : (H : Type) → List (DataW H) → Bool := fun _ ds => decide (uptoBulkAll ds ≤ 1048576)
def OpenSpec.upto (s : _root_.Go.ChangeSpec) : _root_.Go.OpenSpec := { _root_.Go.OpenSpec.ofChange s with cond := some uptoSmall }

/-- 'ciceronetop.TopTwin', WHERE WHAT IT READS IS OF BULK AT MOST 1048576: true; the input reads as it did. -/
def topTwinUptoRow : OpenClaim := { program := "ytcmmclliabhnjaagreatdoor", sum := "e90f5223b5ffd0ae46692d7235dbc61abc7dfb1050a4a4c2f2d4ae24ca97a001", func := "cicerone/ciceronetop.TopTwin", spec := "topTwin", inPlace := ["internal/abi.NoEscape", "internal/bytealg.MakeNoZero", "internal/bytealg.IndexByteString", "internal/bytealg.IndexString", "internal/bytealg.CountString", "slices.overlaps[cicerone/dedupe.Range]", "internal/bytealg.abigen_runtime_cmpstring", "slices.overlaps[cicerone/api.Event]"], unfollowed := true, recurses := true, named := ["internal/strconv.uint64pow10", "math/bits.deBruijn32tab", "math/bits.deBruijn64tab", "cicerone/tale.kinds", "internal/bytealg.MaxLen", "unicode/utf8.first", "unicode/utf8.acceptRanges", "strconv.ErrSyntax", "strconv.ErrRange", "cicerone/event.kindNames"], plainKeys := false, apart := false, laid := [("math/bits.deBruijn32tab", laid_math_bits_deBruijn32tab), ("math/bits.deBruijn64tab", laid_math_bits_deBruijn64tab), ("internal/strconv.uint64pow10", laid_internal_strconv_uint64pow10), ("unicode/utf8.acceptRanges", laid_unicode_utf8_acceptRanges), ("strconv.ErrRange", laid_strconv_ErrRange), ("strconv.ErrSyntax", laid_strconv_ErrSyntax), ("cicerone/event.kindNames", laid_cicerone_event_kindNames), ("cicerone/tale.kinds", laid_cicerone_tale_kinds), ("unicode/utf8.first", laid_unicode_utf8_first)], narrowed := true }
def TopTwinUptoSaid : Prop := topTwinUptoRow.holds Tryz.pinned (OpenSpec.upto topTwinSpec)

/-- 'ciceronelaw48.TwinMerges', WHERE WHAT IT READS IS OF BULK AT MOST 1048576: true; the input reads as it did. -/
def twinMergesUptoRow : OpenClaim := { program := "ytcmmclliabhnjaagreatdoor", sum := "e90f5223b5ffd0ae46692d7235dbc61abc7dfb1050a4a4c2f2d4ae24ca97a001", func := "cicerone/ciceronelaw48.TwinMerges", spec := "twinMerges", inPlace := ["internal/bytealg.IndexByteString", "internal/bytealg.IndexString", "internal/bytealg.CountString", "slices.overlaps[cicerone/dedupe.Range]", "internal/bytealg.abigen_runtime_cmpstring", "slices.overlaps[cicerone/api.Event]", "internal/abi.NoEscape", "internal/bytealg.MakeNoZero"], unfollowed := true, recurses := true, named := ["internal/bytealg.MaxLen", "unicode/utf8.first", "unicode/utf8.acceptRanges", "internal/strconv.uint64pow10", "math/bits.deBruijn32tab", "math/bits.deBruijn64tab", "strconv.ErrSyntax", "strconv.ErrRange", "cicerone/event.kindNames"], plainKeys := false, apart := false, laid := [("math/bits.deBruijn32tab", laid_math_bits_deBruijn32tab), ("math/bits.deBruijn64tab", laid_math_bits_deBruijn64tab), ("internal/strconv.uint64pow10", laid_internal_strconv_uint64pow10), ("unicode/utf8.acceptRanges", laid_unicode_utf8_acceptRanges), ("strconv.ErrRange", laid_strconv_ErrRange), ("strconv.ErrSyntax", laid_strconv_ErrSyntax), ("cicerone/event.kindNames", laid_cicerone_event_kindNames), ("unicode/utf8.first", laid_unicode_utf8_first)], narrowed := true }
def TwinMergesUptoSaid : Prop := twinMergesUptoRow.holds Tryz.pinned (OpenSpec.upto twinMergesSpec)

/-- 'ciceronelaw48.TwinTells', WHERE WHAT IT READS IS OF BULK AT MOST 1048576: true; the input reads as it did. -/
def twinTellsUptoRow : OpenClaim := { program := "ytcmmclliabhnjaagreatdoor", sum := "e90f5223b5ffd0ae46692d7235dbc61abc7dfb1050a4a4c2f2d4ae24ca97a001", func := "cicerone/ciceronelaw48.TwinTells", spec := "twinTells", inPlace := ["internal/bytealg.IndexByteString", "internal/bytealg.IndexString", "internal/bytealg.CountString", "slices.overlaps[cicerone/dedupe.Range]", "internal/bytealg.abigen_runtime_cmpstring", "slices.overlaps[cicerone/api.Event]", "internal/abi.NoEscape", "internal/bytealg.MakeNoZero"], unfollowed := true, recurses := true, named := ["internal/bytealg.MaxLen", "unicode/utf8.first", "unicode/utf8.acceptRanges", "internal/strconv.uint64pow10", "math/bits.deBruijn32tab", "math/bits.deBruijn64tab", "strconv.ErrSyntax", "strconv.ErrRange", "cicerone/event.kindNames"], plainKeys := false, apart := false, laid := [("math/bits.deBruijn32tab", laid_math_bits_deBruijn32tab), ("math/bits.deBruijn64tab", laid_math_bits_deBruijn64tab), ("internal/strconv.uint64pow10", laid_internal_strconv_uint64pow10), ("unicode/utf8.acceptRanges", laid_unicode_utf8_acceptRanges), ("strconv.ErrRange", laid_strconv_ErrRange), ("strconv.ErrSyntax", laid_strconv_ErrSyntax), ("cicerone/event.kindNames", laid_cicerone_event_kindNames), ("unicode/utf8.first", laid_unicode_utf8_first)], narrowed := true }
def TwinTellsUptoSaid : Prop := twinTellsUptoRow.holds Tryz.pinned (OpenSpec.upto twinTellsSpec)

/-- 'ciceronelaw48.TwinSame', WHERE WHAT IT READS IS OF BULK AT MOST 1048576: true; the input reads as it did. -/
def twinSameUptoRow : OpenClaim := { program := "ytcmmclliabhnjaagreatdoor", sum := "e90f5223b5ffd0ae46692d7235dbc61abc7dfb1050a4a4c2f2d4ae24ca97a001", func := "cicerone/ciceronelaw48.TwinSame", spec := "twinSame", inPlace := ["internal/bytealg.IndexByteString", "internal/bytealg.IndexString", "internal/bytealg.CountString", "slices.overlaps[cicerone/dedupe.Range]", "internal/bytealg.abigen_runtime_cmpstring", "slices.overlaps[cicerone/api.Event]", "internal/abi.NoEscape", "internal/bytealg.MakeNoZero"], unfollowed := true, recurses := true, named := ["internal/bytealg.MaxLen", "unicode/utf8.first", "unicode/utf8.acceptRanges", "internal/strconv.uint64pow10", "math/bits.deBruijn32tab", "math/bits.deBruijn64tab", "strconv.ErrSyntax", "strconv.ErrRange", "cicerone/event.kindNames"], plainKeys := false, apart := false, laid := [("math/bits.deBruijn32tab", laid_math_bits_deBruijn32tab), ("math/bits.deBruijn64tab", laid_math_bits_deBruijn64tab), ("internal/strconv.uint64pow10", laid_internal_strconv_uint64pow10), ("unicode/utf8.acceptRanges", laid_unicode_utf8_acceptRanges), ("strconv.ErrRange", laid_strconv_ErrRange), ("strconv.ErrSyntax", laid_strconv_ErrSyntax), ("cicerone/event.kindNames", laid_cicerone_event_kindNames), ("unicode/utf8.first", laid_unicode_utf8_first)], narrowed := true }
def TwinSameUptoSaid : Prop := twinSameUptoRow.holds Tryz.pinned (OpenSpec.upto twinSameSpec)

/-- 'ciceronelaw48.TwinGoesOn', WHERE WHAT IT READS IS OF BULK AT MOST 1048576: true; the input reads as it did. -/
def twinGoesOnUptoRow : OpenClaim := { program := "ytcmmclliabhnjaagreatdoor", sum := "e90f5223b5ffd0ae46692d7235dbc61abc7dfb1050a4a4c2f2d4ae24ca97a001", func := "cicerone/ciceronelaw48.TwinGoesOn", spec := "twinGoesOn", inPlace := ["internal/bytealg.IndexByteString", "internal/bytealg.IndexString", "internal/bytealg.CountString", "slices.overlaps[cicerone/dedupe.Range]", "internal/bytealg.abigen_runtime_cmpstring", "slices.overlaps[cicerone/api.Event]", "internal/abi.NoEscape", "internal/bytealg.MakeNoZero"], unfollowed := true, recurses := true, named := ["internal/bytealg.MaxLen", "unicode/utf8.first", "unicode/utf8.acceptRanges", "internal/strconv.uint64pow10", "math/bits.deBruijn32tab", "math/bits.deBruijn64tab", "strconv.ErrSyntax", "strconv.ErrRange", "cicerone/event.kindNames"], plainKeys := false, apart := false, laid := [("math/bits.deBruijn32tab", laid_math_bits_deBruijn32tab), ("math/bits.deBruijn64tab", laid_math_bits_deBruijn64tab), ("internal/strconv.uint64pow10", laid_internal_strconv_uint64pow10), ("unicode/utf8.acceptRanges", laid_unicode_utf8_acceptRanges), ("strconv.ErrRange", laid_strconv_ErrRange), ("strconv.ErrSyntax", laid_strconv_ErrSyntax), ("cicerone/event.kindNames", laid_cicerone_event_kindNames), ("unicode/utf8.first", laid_unicode_utf8_first)], narrowed := true }
def TwinGoesOnUptoSaid : Prop := twinGoesOnUptoRow.holds Tryz.pinned (OpenSpec.upto twinGoesOnSpec)

/-- 'ciceronelaw48.TwinGone', WHERE WHAT IT READS IS OF BULK AT MOST 1048576: true; the input reads as it did. -/
def twinGoneUptoRow : OpenClaim := { program := "ytcmmclliabhnjaagreatdoor", sum := "e90f5223b5ffd0ae46692d7235dbc61abc7dfb1050a4a4c2f2d4ae24ca97a001", func := "cicerone/ciceronelaw48.TwinGone", spec := "twinGone", inPlace := ["internal/bytealg.IndexByteString", "internal/bytealg.IndexString", "internal/bytealg.CountString", "slices.overlaps[cicerone/dedupe.Range]", "internal/bytealg.abigen_runtime_cmpstring", "slices.overlaps[cicerone/api.Event]", "internal/abi.NoEscape", "internal/bytealg.MakeNoZero"], unfollowed := true, recurses := true, named := ["internal/bytealg.MaxLen", "unicode/utf8.first", "unicode/utf8.acceptRanges", "internal/strconv.uint64pow10", "math/bits.deBruijn32tab", "math/bits.deBruijn64tab", "strconv.ErrSyntax", "strconv.ErrRange", "cicerone/event.kindNames"], plainKeys := false, apart := false, laid := [("math/bits.deBruijn32tab", laid_math_bits_deBruijn32tab), ("math/bits.deBruijn64tab", laid_math_bits_deBruijn64tab), ("internal/strconv.uint64pow10", laid_internal_strconv_uint64pow10), ("unicode/utf8.acceptRanges", laid_unicode_utf8_acceptRanges), ("strconv.ErrRange", laid_strconv_ErrRange), ("strconv.ErrSyntax", laid_strconv_ErrSyntax), ("cicerone/event.kindNames", laid_cicerone_event_kindNames), ("unicode/utf8.first", laid_unicode_utf8_first)], narrowed := true }
def TwinGoneUptoSaid : Prop := twinGoneUptoRow.holds Tryz.pinned (OpenSpec.upto twinGoneSpec)

end Rows
end Go.Proofs.YtcmmclliabhnjaaGreatDoor
