/-
  NARROWER THAN 'FOR EVERY INPUT', by the rows' own cells (each row's printed sentence says how): IntakeMarks: laid · EraseLists: laid · EraseAgain: laid · EraseApart: laid.
  DERIVED. THE GIVEN ROWS OF THIS SEAT. 4 by the template 'for every input the law returns true; each argument reads behind the call as it read before'; 0 by the template 'total and deterministic' (their statements: YtnnkhgllfhpdpaaDoorTotals.lean).
  GIVEN WITH THE SEED: the statements are not yours to turn. If you find one false, say at which input.
  Laid BY PROGRAM, IN A SANDBOX (cutbox-rows.mjs): the forced cells as the released guide's own fill.sh prints them over the translation 35f7f6c124720daa… (all of the seat's roots in one cut). By AI agents, Wed Nov 11 2026. No macro, syntax, notation, axiom, sorry.
-/
import Derived.Test.YtnnkhgllfhpdpaaDoorChecked
import GoSem.PinnedTables
import GoSem.Claim
import GoSem.ClaimJoined
import GoSem.ClaimMapViews
import Derived.JoinedTies
import Derived.KernelRfl
namespace Go.Proofs.YtnnkhgllfhpdpaaDoor
/- THE CELL 'sum', in the pinned program and in every row, IS THE sha256 OF THE DUMP (.gsa) THAT YtnnkhgllfhpdpaaDoorProg.lean LOADS. Nothing in Lean hashes anything: it is a label: what it is worth is what the hold of that sum in a sandbox is worth. -/
noncomputable def Tryd.pinned : Pinned := { name := "ytnnkhgllfhpdpaadoor", sum := "35f7f6c124720daa580e84c5b2896c3b671f21f78a5f8d8e52f272b334357f69", checked := Tryd.checked }
namespace Rows
def none {H : Type} : Left H := { results := [], args := [] }

/- WHAT THE LISTED PACKAGE-LEVEL VARIABLES READ AS WHEN THE CALL BEGINS. Each datum BY PROGRAM (the guide's laid-datum.mjs) off the statement by which the dump's own 'gosem.cut.vars' lays the variable. In a bare row this is a premise. The card (YtnnkhgllfhpdpaaDoorCards.lean) ties it to the program's text. -/
def laid_unicode_utf8_acceptRanges {H : Type} : DataW H := .agg [.agg [.lit (.int .u8 128), .lit (.int .u8 191)], .agg [.lit (.int .u8 160), .lit (.int .u8 191)], .agg [.lit (.int .u8 128), .lit (.int .u8 159)], .agg [.lit (.int .u8 144), .lit (.int .u8 191)], .agg [.lit (.int .u8 128), .lit (.int .u8 143)], .agg [.lit (.int .u8 0), .lit (.int .u8 0)], .agg [.lit (.int .u8 0), .lit (.int .u8 0)], .agg [.lit (.int .u8 0), .lit (.int .u8 0)], .agg [.lit (.int .u8 0), .lit (.int .u8 0)], .agg [.lit (.int .u8 0), .lit (.int .u8 0)], .agg [.lit (.int .u8 0), .lit (.int .u8 0)], .agg [.lit (.int .u8 0), .lit (.int .u8 0)], .agg [.lit (.int .u8 0), .lit (.int .u8 0)], .agg [.lit (.int .u8 0), .lit (.int .u8 0)], .agg [.lit (.int .u8 0), .lit (.int .u8 0)], .agg [.lit (.int .u8 0), .lit (.int .u8 0)]]
/-- One of Go's own tables, pinned by name: the form's constant. -/
def laid_unicode_utf8_first : DataW Unit := Go.Pinned.utf8First

/-- 'ciceronelaw08.IntakeMarks': WHATEVER THE INPUT: true; the input reads as it did. -/
def intakeMarksSpec : ChangeSpec := { name := "intakeMarks", fn := fun _ => fun
  | [d1, d2, d3] => { results := [.lit (.bool true)], args := [d1, d2, d3] }
  | _ => none }
def intakeMarksRow : OpenClaim := { program := "ytnnkhgllfhpdpaadoor", sum := "35f7f6c124720daa580e84c5b2896c3b671f21f78a5f8d8e52f272b334357f69", func := "cicerone/ciceronelaw08.IntakeMarks", spec := "intakeMarks", inPlace := ["internal/bytealg.IndexByteString", "internal/bytealg.IndexString", "internal/bytealg.CountString", "slices.overlaps[cicerone/dedupe.Range]", "internal/bytealg.abigen_runtime_cmpstring", "slices.overlaps[cicerone/api.Event]"], unfollowed := true, recurses := true, named := ["internal/bytealg.MaxLen", "unicode/utf8.first", "unicode/utf8.acceptRanges"], plainKeys := false, apart := false, laid := [("unicode/utf8.acceptRanges", laid_unicode_utf8_acceptRanges), ("unicode/utf8.first", laid_unicode_utf8_first)] }
def IntakeMarksSaid : Prop := intakeMarksRow.holds Tryd.pinned (OpenSpec.ofChange intakeMarksSpec)

/-- ITS FALSE NEIGHBOUR: 'it returns false'. Refute it at one input. -/
def intakeMarksWrong : ChangeSpec := { name := "intakeMarks", fn := fun _ => fun
  | [d1, d2, d3] => { results := [.lit (.bool false)], args := [d1, d2, d3] }
  | _ => none }
def IntakeMarksWrongFalsely : Prop := intakeMarksRow.holds Tryd.pinned (OpenSpec.ofChange intakeMarksWrong)

/-- 'ciceronelaw31.EraseLists': WHATEVER THE INPUT: true; the input reads as it did. -/
def eraseListsSpec : ChangeSpec := { name := "eraseLists", fn := fun _ => fun
  | [d1, d2] => { results := [.lit (.bool true)], args := [d1, d2] }
  | _ => none }
def eraseListsRow : OpenClaim := { program := "ytnnkhgllfhpdpaadoor", sum := "35f7f6c124720daa580e84c5b2896c3b671f21f78a5f8d8e52f272b334357f69", func := "cicerone/ciceronelaw31.EraseLists", spec := "eraseLists", inPlace := ["internal/bytealg.IndexByteString", "internal/bytealg.IndexString", "internal/bytealg.CountString"], unfollowed := true, recurses := true, named := ["internal/bytealg.MaxLen", "unicode/utf8.first", "unicode/utf8.acceptRanges"], plainKeys := false, apart := false, laid := [("unicode/utf8.acceptRanges", laid_unicode_utf8_acceptRanges), ("unicode/utf8.first", laid_unicode_utf8_first)] }
def EraseListsSaid : Prop := eraseListsRow.holds Tryd.pinned (OpenSpec.ofChange eraseListsSpec)

/-- ITS FALSE NEIGHBOUR: 'it returns false'. Refute it at one input. -/
def eraseListsWrong : ChangeSpec := { name := "eraseLists", fn := fun _ => fun
  | [d1, d2] => { results := [.lit (.bool false)], args := [d1, d2] }
  | _ => none }
def EraseListsWrongFalsely : Prop := eraseListsRow.holds Tryd.pinned (OpenSpec.ofChange eraseListsWrong)

/-- 'ciceronelaw31.EraseAgain': WHATEVER THE INPUT: true; the input reads as it did. -/
def eraseAgainSpec : ChangeSpec := { name := "eraseAgain", fn := fun _ => fun
  | [d1, d2] => { results := [.lit (.bool true)], args := [d1, d2] }
  | _ => none }
def eraseAgainRow : OpenClaim := { program := "ytnnkhgllfhpdpaadoor", sum := "35f7f6c124720daa580e84c5b2896c3b671f21f78a5f8d8e52f272b334357f69", func := "cicerone/ciceronelaw31.EraseAgain", spec := "eraseAgain", inPlace := ["internal/bytealg.IndexByteString", "internal/bytealg.IndexString", "internal/bytealg.CountString"], unfollowed := true, recurses := true, named := ["internal/bytealg.MaxLen", "unicode/utf8.first", "unicode/utf8.acceptRanges"], plainKeys := false, apart := false, laid := [("unicode/utf8.acceptRanges", laid_unicode_utf8_acceptRanges), ("unicode/utf8.first", laid_unicode_utf8_first)] }
def EraseAgainSaid : Prop := eraseAgainRow.holds Tryd.pinned (OpenSpec.ofChange eraseAgainSpec)

/-- ITS FALSE NEIGHBOUR: 'it returns false'. Refute it at one input. -/
def eraseAgainWrong : ChangeSpec := { name := "eraseAgain", fn := fun _ => fun
  | [d1, d2] => { results := [.lit (.bool false)], args := [d1, d2] }
  | _ => none }
def EraseAgainWrongFalsely : Prop := eraseAgainRow.holds Tryd.pinned (OpenSpec.ofChange eraseAgainWrong)

/-- 'ciceronelaw31.EraseApart': WHATEVER THE INPUT: true; the input reads as it did. -/
def eraseApartSpec : ChangeSpec := { name := "eraseApart", fn := fun _ => fun
  | [d1, d2, d3] => { results := [.lit (.bool true)], args := [d1, d2, d3] }
  | _ => none }
def eraseApartRow : OpenClaim := { program := "ytnnkhgllfhpdpaadoor", sum := "35f7f6c124720daa580e84c5b2896c3b671f21f78a5f8d8e52f272b334357f69", func := "cicerone/ciceronelaw31.EraseApart", spec := "eraseApart", inPlace := ["internal/bytealg.IndexByteString", "internal/bytealg.IndexString", "internal/bytealg.CountString"], unfollowed := true, recurses := true, named := ["internal/bytealg.MaxLen", "unicode/utf8.first", "unicode/utf8.acceptRanges"], plainKeys := false, apart := false, laid := [("unicode/utf8.acceptRanges", laid_unicode_utf8_acceptRanges), ("unicode/utf8.first", laid_unicode_utf8_first)] }
def EraseApartSaid : Prop := eraseApartRow.holds Tryd.pinned (OpenSpec.ofChange eraseApartSpec)

/-- ITS FALSE NEIGHBOUR: 'it returns false'. Refute it at one input. -/
def eraseApartWrong : ChangeSpec := { name := "eraseApart", fn := fun _ => fun
  | [d1, d2, d3] => { results := [.lit (.bool false)], args := [d1, d2, d3] }
  | _ => none }
def EraseApartWrongFalsely : Prop := eraseApartRow.holds Tryd.pinned (OpenSpec.ofChange eraseApartWrong)

/- THE SECOND FORM. 'bulk': how many values and letters a reading holds, each counted each time it is reached (what is shared counts as often as it is met; a slice's spare places count too). A statement '..UptoSaid' is the law's where the arguments, and the package variables that the reading takes, are together of bulk at most 1048576: NARROWER than '..Said'. Prove '..Said' where nothing that the law and all that it calls make is longer than what came in: it says more and counts as full. Else prove '..UptoSaid'. A law counts once. -/
mutual
def uptoBulk {H : Type} : DataW H → Nat
  | .lit (.string bytes) => bytes.length + 1
  | .lit _ => 1
  | .nil => 1
  | .ptr d => uptoBulk d + 1
  | .slice elems spare => uptoBulkAll elems + uptoBulkAll spare + 1
  | .agg parts => uptoBulkAll parts + 1
  | .iface _ d => uptoBulk d + 1
  | .map entries => uptoBulkEntries entries + 1
  | .held _ => 1
def uptoBulkAll {H : Type} : List (DataW H) → Nat
  | [] => 0
  | d :: r => uptoBulk d + uptoBulkAll r
def uptoBulkEntries {H : Type} : List (Lit × DataW H) → Nat
  | [] => 0
  | x :: r => uptoBulkEntry x + uptoBulkEntries r
def uptoBulkEntry {H : Type} : Lit × DataW H → Nat
  | (.string bytes, d) => bytes.length + uptoBulk d + 1
  | (_, d) => uptoBulk d + 1
 end
def uptoSmall : (H : Type) → List (DataW H) → Bool := fun _ ds => decide (uptoBulkAll ds ≤ 1048576)
def OpenSpec.upto (s : _root_.Go.ChangeSpec) : _root_.Go.OpenSpec := { _root_.Go.OpenSpec.ofChange s with cond := some uptoSmall }

/-- 'ciceronelaw08.IntakeMarks', WHERE WHAT IT READS IS OF BULK AT MOST 1048576: true; the input reads as it did. -/
def intakeMarksUptoRow : OpenClaim := { program := "ytnnkhgllfhpdpaadoor", sum := "35f7f6c124720daa580e84c5b2896c3b671f21f78a5f8d8e52f272b334357f69", func := "cicerone/ciceronelaw08.IntakeMarks", spec := "intakeMarks", inPlace := ["internal/bytealg.IndexByteString", "internal/bytealg.IndexString", "internal/bytealg.CountString", "slices.overlaps[cicerone/dedupe.Range]", "internal/bytealg.abigen_runtime_cmpstring", "slices.overlaps[cicerone/api.Event]"], unfollowed := true, recurses := true, named := ["internal/bytealg.MaxLen", "unicode/utf8.first", "unicode/utf8.acceptRanges"], plainKeys := false, apart := false, laid := [("unicode/utf8.acceptRanges", laid_unicode_utf8_acceptRanges), ("unicode/utf8.first", laid_unicode_utf8_first)], narrowed := true }
def IntakeMarksUptoSaid : Prop := intakeMarksUptoRow.holds Tryd.pinned (OpenSpec.upto intakeMarksSpec)

/-- 'ciceronelaw31.EraseLists', WHERE WHAT IT READS IS OF BULK AT MOST 1048576: true; the input reads as it did. -/
def eraseListsUptoRow : OpenClaim := { program := "ytnnkhgllfhpdpaadoor", sum := "35f7f6c124720daa580e84c5b2896c3b671f21f78a5f8d8e52f272b334357f69", func := "cicerone/ciceronelaw31.EraseLists", spec := "eraseLists", inPlace := ["internal/bytealg.IndexByteString", "internal/bytealg.IndexString", "internal/bytealg.CountString"], unfollowed := true, recurses := true, named := ["internal/bytealg.MaxLen", "unicode/utf8.first", "unicode/utf8.acceptRanges"], plainKeys := false, apart := false, laid := [("unicode/utf8.acceptRanges", laid_unicode_utf8_acceptRanges), ("unicode/utf8.first", laid_unicode_utf8_first)], narrowed := true }
def EraseListsUptoSaid : Prop := eraseListsUptoRow.holds Tryd.pinned (OpenSpec.upto eraseListsSpec)

/-- 'ciceronelaw31.EraseAgain', WHERE WHAT IT READS IS OF BULK AT MOST 1048576: true; the input reads as it did. -/
def eraseAgainUptoRow : OpenClaim := { program := "ytnnkhgllfhpdpaadoor", sum := "35f7f6c124720daa580e84c5b2896c3b671f21f78a5f8d8e52f272b334357f69", func := "cicerone/ciceronelaw31.EraseAgain", spec := "eraseAgain", inPlace := ["internal/bytealg.IndexByteString", "internal/bytealg.IndexString", "internal/bytealg.CountString"], unfollowed := true, recurses := true, named := ["internal/bytealg.MaxLen", "unicode/utf8.first", "unicode/utf8.acceptRanges"], plainKeys := false, apart := false, laid := [("unicode/utf8.acceptRanges", laid_unicode_utf8_acceptRanges), ("unicode/utf8.first", laid_unicode_utf8_first)], narrowed := true }
def EraseAgainUptoSaid : Prop := eraseAgainUptoRow.holds Tryd.pinned (OpenSpec.upto eraseAgainSpec)

/-- 'ciceronelaw31.EraseApart', WHERE WHAT IT READS IS OF BULK AT MOST 1048576: true; the input reads as it did. -/
def eraseApartUptoRow : OpenClaim := { program := "ytnnkhgllfhpdpaadoor", sum := "35f7f6c124720daa580e84c5b2896c3b671f21f78a5f8d8e52f272b334357f69", func := "cicerone/ciceronelaw31.EraseApart", spec := "eraseApart", inPlace := ["internal/bytealg.IndexByteString", "internal/bytealg.IndexString", "internal/bytealg.CountString"], unfollowed := true, recurses := true, named := ["internal/bytealg.MaxLen", "unicode/utf8.first", "unicode/utf8.acceptRanges"], plainKeys := false, apart := false, laid := [("unicode/utf8.acceptRanges", laid_unicode_utf8_acceptRanges), ("unicode/utf8.first", laid_unicode_utf8_first)], narrowed := true }
def EraseApartUptoSaid : Prop := eraseApartUptoRow.holds Tryd.pinned (OpenSpec.upto eraseApartSpec)

end Rows
end Go.Proofs.YtnnkhgllfhpdpaaDoor
