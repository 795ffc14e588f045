/-
  NARROWER THAN 'FOR EVERY INPUT', by the rows' own cells (each row's printed sentence says how): IntakeOrder: laid · EraseDrops: laid · IntakePlays: laid · IntakeTwice: laid · IntakeForgets: laid · IntakeDrops: laid · IntakeAdmits: laid.
  DERIVED. THE GIVEN ROWS OF THIS SEAT. 7 by the template 'for every input the law returns true; each argument reads behind the call as it read before'; 0 by the template 'total and deterministic' (their statements: YtoljbbmjbgepiaaGreatDoorTotals.lean).
  GIVEN WITH THE SEED: the statements are not yours to turn. If you find one false, say at which input.
  Laid BY PROGRAM, IN A SANDBOX (cutbox-rows.mjs): the forced cells as the released guide's own fill.sh prints them over the translation 1d4d04dd99f1a082… (all of the seat's roots in one cut). By AI agents, Wed Nov 11 2026. No macro, syntax, notation, axiom, sorry.
-/
import Derived.Test.YtoljbbmjbgepiaaGreatDoorChecked
import GoSem.PinnedTables
import GoSem.Claim
import GoSem.ClaimJoined
import GoSem.ClaimMapViews
import Derived.JoinedTies
import Derived.KernelRfl
namespace Go.Proofs.YtoljbbmjbgepiaaGreatDoor
/- THE CELL 'sum', in the pinned program and in every row, IS THE sha256 OF THE DUMP (.gsa) THAT YtoljbbmjbgepiaaGreatDoorProg.lean LOADS. Nothing in Lean hashes anything: it is a label: what it is worth is what the hold of that sum in a sandbox is worth. -/
noncomputable def Tryz.pinned : Pinned := { name := "ytoljbbmjbgepiaagreatdoor", sum := "1d4d04dd99f1a082064a88477bca4a06c7796279e1332786e40362637a876155", checked := Tryz.checked }
namespace Rows
def none {H : Type} : Left H := { results := [], args := [] }

/- WHAT THE LISTED PACKAGE-LEVEL VARIABLES READ AS WHEN THE CALL BEGINS. Each datum BY PROGRAM (the guide's laid-datum.mjs) off the statement by which the dump's own 'gosem.cut.vars' lays the variable. In a bare row this is a premise. The card (YtoljbbmjbgepiaaGreatDoorCards.lean) ties it to the program's text. -/
def laid_unicode_utf8_acceptRanges {H : Type} : DataW H := .agg [.agg [.lit (.int .u8 128), .lit (.int .u8 191)], .agg [.lit (.int .u8 160), .lit (.int .u8 191)], .agg [.lit (.int .u8 128), .lit (.int .u8 159)], .agg [.lit (.int .u8 144), .lit (.int .u8 191)], .agg [.lit (.int .u8 128), .lit (.int .u8 143)], .agg [.lit (.int .u8 0), .lit (.int .u8 0)], .agg [.lit (.int .u8 0), .lit (.int .u8 0)], .agg [.lit (.int .u8 0), .lit (.int .u8 0)], .agg [.lit (.int .u8 0), .lit (.int .u8 0)], .agg [.lit (.int .u8 0), .lit (.int .u8 0)], .agg [.lit (.int .u8 0), .lit (.int .u8 0)], .agg [.lit (.int .u8 0), .lit (.int .u8 0)], .agg [.lit (.int .u8 0), .lit (.int .u8 0)], .agg [.lit (.int .u8 0), .lit (.int .u8 0)], .agg [.lit (.int .u8 0), .lit (.int .u8 0)], .agg [.lit (.int .u8 0), .lit (.int .u8 0)]]
/-- One of Go's own tables, pinned by name: the form's constant. -/
def laid_unicode_utf8_first : DataW Unit := Go.Pinned.utf8First

/-- 'ciceronelaw08.IntakeOrder': WHATEVER THE INPUT: true; the input reads as it did. -/
def intakeOrderSpec : ChangeSpec := { name := "intakeOrder", fn := fun _ => fun
  | [d1, d2, d3, d4] => { results := [.lit (.bool true)], args := [d1, d2, d3, d4] }
  | _ => none }
def intakeOrderRow : OpenClaim := { program := "ytoljbbmjbgepiaagreatdoor", sum := "1d4d04dd99f1a082064a88477bca4a06c7796279e1332786e40362637a876155", func := "cicerone/ciceronelaw08.IntakeOrder", spec := "intakeOrder", inPlace := ["internal/bytealg.IndexByteString", "internal/bytealg.IndexString", "internal/bytealg.CountString", "slices.overlaps[cicerone/dedupe.Range]", "internal/bytealg.abigen_runtime_cmpstring", "slices.overlaps[cicerone/api.Event]"], unfollowed := true, recurses := true, named := ["internal/bytealg.MaxLen", "unicode/utf8.first", "unicode/utf8.acceptRanges"], plainKeys := false, apart := false, laid := [("unicode/utf8.acceptRanges", laid_unicode_utf8_acceptRanges), ("unicode/utf8.first", laid_unicode_utf8_first)] }
def IntakeOrderSaid : Prop := intakeOrderRow.holds Tryz.pinned (OpenSpec.ofChange intakeOrderSpec)

/-- ITS FALSE NEIGHBOUR: 'it returns false'. Refute it at one input. -/
def intakeOrderWrong : ChangeSpec := { name := "intakeOrder", fn := fun _ => fun
  | [d1, d2, d3, d4] => { results := [.lit (.bool false)], args := [d1, d2, d3, d4] }
  | _ => none }
def IntakeOrderWrongFalsely : Prop := intakeOrderRow.holds Tryz.pinned (OpenSpec.ofChange intakeOrderWrong)

/-- 'ciceronelaw31.EraseDrops': WHATEVER THE INPUT: true; the input reads as it did. -/
def eraseDropsSpec : ChangeSpec := { name := "eraseDrops", fn := fun _ => fun
  | [d] => { results := [.lit (.bool true)], args := [d] }
  | _ => none }
def eraseDropsRow : OpenClaim := { program := "ytoljbbmjbgepiaagreatdoor", sum := "1d4d04dd99f1a082064a88477bca4a06c7796279e1332786e40362637a876155", func := "cicerone/ciceronelaw31.EraseDrops", spec := "eraseDrops", inPlace := ["internal/bytealg.IndexByteString", "internal/bytealg.IndexString", "internal/bytealg.CountString", "slices.overlaps[cicerone/dedupe.Range]", "internal/bytealg.abigen_runtime_cmpstring", "slices.overlaps[cicerone/api.Event]"], unfollowed := true, recurses := true, named := ["internal/bytealg.MaxLen", "unicode/utf8.first", "unicode/utf8.acceptRanges"], plainKeys := false, apart := false, laid := [("unicode/utf8.acceptRanges", laid_unicode_utf8_acceptRanges), ("unicode/utf8.first", laid_unicode_utf8_first)] }
def EraseDropsSaid : Prop := eraseDropsRow.holds Tryz.pinned (OpenSpec.ofChange eraseDropsSpec)

/-- ITS FALSE NEIGHBOUR: 'it returns false'. Refute it at one input. -/
def eraseDropsWrong : ChangeSpec := { name := "eraseDrops", fn := fun _ => fun
  | [d] => { results := [.lit (.bool false)], args := [d] }
  | _ => none }
def EraseDropsWrongFalsely : Prop := eraseDropsRow.holds Tryz.pinned (OpenSpec.ofChange eraseDropsWrong)

/-- 'ciceronelaw08.IntakePlays': WHATEVER THE INPUT: true; the input reads as it did. -/
def intakePlaysSpec : ChangeSpec := { name := "intakePlays", fn := fun _ => fun
  | [d1, d2, d3] => { results := [.lit (.bool true)], args := [d1, d2, d3] }
  | _ => none }
def intakePlaysRow : OpenClaim := { program := "ytoljbbmjbgepiaagreatdoor", sum := "1d4d04dd99f1a082064a88477bca4a06c7796279e1332786e40362637a876155", func := "cicerone/ciceronelaw08.IntakePlays", spec := "intakePlays", inPlace := ["internal/bytealg.IndexByteString", "internal/bytealg.IndexString", "internal/bytealg.CountString", "slices.overlaps[cicerone/dedupe.Range]", "internal/bytealg.abigen_runtime_cmpstring", "slices.overlaps[cicerone/api.Event]"], unfollowed := true, recurses := true, named := ["internal/bytealg.MaxLen", "unicode/utf8.first", "unicode/utf8.acceptRanges"], plainKeys := false, apart := false, laid := [("unicode/utf8.acceptRanges", laid_unicode_utf8_acceptRanges), ("unicode/utf8.first", laid_unicode_utf8_first)] }
def IntakePlaysSaid : Prop := intakePlaysRow.holds Tryz.pinned (OpenSpec.ofChange intakePlaysSpec)

/-- ITS FALSE NEIGHBOUR: 'it returns false'. Refute it at one input. -/
def intakePlaysWrong : ChangeSpec := { name := "intakePlays", fn := fun _ => fun
  | [d1, d2, d3] => { results := [.lit (.bool false)], args := [d1, d2, d3] }
  | _ => none }
def IntakePlaysWrongFalsely : Prop := intakePlaysRow.holds Tryz.pinned (OpenSpec.ofChange intakePlaysWrong)

/-- 'ciceronelaw08.IntakeTwice': WHATEVER THE INPUT: true; the input reads as it did. -/
def intakeTwiceSpec : ChangeSpec := { name := "intakeTwice", fn := fun _ => fun
  | [d1, d2, d3, d4] => { results := [.lit (.bool true)], args := [d1, d2, d3, d4] }
  | _ => none }
def intakeTwiceRow : OpenClaim := { program := "ytoljbbmjbgepiaagreatdoor", sum := "1d4d04dd99f1a082064a88477bca4a06c7796279e1332786e40362637a876155", func := "cicerone/ciceronelaw08.IntakeTwice", spec := "intakeTwice", inPlace := ["internal/bytealg.IndexByteString", "internal/bytealg.IndexString", "internal/bytealg.CountString", "slices.overlaps[cicerone/dedupe.Range]", "internal/bytealg.abigen_runtime_cmpstring", "slices.overlaps[cicerone/api.Event]"], unfollowed := true, recurses := true, named := ["internal/bytealg.MaxLen", "unicode/utf8.first", "unicode/utf8.acceptRanges"], plainKeys := false, apart := false, laid := [("unicode/utf8.acceptRanges", laid_unicode_utf8_acceptRanges), ("unicode/utf8.first", laid_unicode_utf8_first)] }
def IntakeTwiceSaid : Prop := intakeTwiceRow.holds Tryz.pinned (OpenSpec.ofChange intakeTwiceSpec)

/-- ITS FALSE NEIGHBOUR: 'it returns false'. Refute it at one input. -/
def intakeTwiceWrong : ChangeSpec := { name := "intakeTwice", fn := fun _ => fun
  | [d1, d2, d3, d4] => { results := [.lit (.bool false)], args := [d1, d2, d3, d4] }
  | _ => none }
def IntakeTwiceWrongFalsely : Prop := intakeTwiceRow.holds Tryz.pinned (OpenSpec.ofChange intakeTwiceWrong)

/-- 'ciceronelaw08.IntakeForgets': WHATEVER THE INPUT: true; the input reads as it did. -/
def intakeForgetsSpec : ChangeSpec := { name := "intakeForgets", fn := fun _ => fun
  | [d1, d2, d3, d4, d5, d6] => { results := [.lit (.bool true)], args := [d1, d2, d3, d4, d5, d6] }
  | _ => none }
def intakeForgetsRow : OpenClaim := { program := "ytoljbbmjbgepiaagreatdoor", sum := "1d4d04dd99f1a082064a88477bca4a06c7796279e1332786e40362637a876155", func := "cicerone/ciceronelaw08.IntakeForgets", spec := "intakeForgets", inPlace := ["internal/bytealg.IndexByteString", "internal/bytealg.IndexString", "internal/bytealg.CountString", "slices.overlaps[cicerone/dedupe.Range]", "internal/bytealg.abigen_runtime_cmpstring", "slices.overlaps[cicerone/api.Event]"], unfollowed := true, recurses := true, named := ["internal/bytealg.MaxLen", "unicode/utf8.first", "unicode/utf8.acceptRanges"], plainKeys := false, apart := false, laid := [("unicode/utf8.acceptRanges", laid_unicode_utf8_acceptRanges), ("unicode/utf8.first", laid_unicode_utf8_first)] }
def IntakeForgetsSaid : Prop := intakeForgetsRow.holds Tryz.pinned (OpenSpec.ofChange intakeForgetsSpec)

/-- ITS FALSE NEIGHBOUR: 'it returns false'. Refute it at one input. -/
def intakeForgetsWrong : ChangeSpec := { name := "intakeForgets", fn := fun _ => fun
  | [d1, d2, d3, d4, d5, d6] => { results := [.lit (.bool false)], args := [d1, d2, d3, d4, d5, d6] }
  | _ => none }
def IntakeForgetsWrongFalsely : Prop := intakeForgetsRow.holds Tryz.pinned (OpenSpec.ofChange intakeForgetsWrong)

/-- 'ciceronelaw08.IntakeDrops': WHATEVER THE INPUT: true; the input reads as it did. -/
def intakeDropsSpec : ChangeSpec := { name := "intakeDrops", fn := fun _ => fun
  | [d1, d2, d3, d4] => { results := [.lit (.bool true)], args := [d1, d2, d3, d4] }
  | _ => none }
def intakeDropsRow : OpenClaim := { program := "ytoljbbmjbgepiaagreatdoor", sum := "1d4d04dd99f1a082064a88477bca4a06c7796279e1332786e40362637a876155", func := "cicerone/ciceronelaw08.IntakeDrops", spec := "intakeDrops", inPlace := ["internal/bytealg.IndexByteString", "internal/bytealg.IndexString", "internal/bytealg.CountString", "slices.overlaps[cicerone/dedupe.Range]", "internal/bytealg.abigen_runtime_cmpstring", "slices.overlaps[cicerone/api.Event]"], unfollowed := true, recurses := true, named := ["internal/bytealg.MaxLen", "unicode/utf8.first", "unicode/utf8.acceptRanges"], plainKeys := false, apart := false, laid := [("unicode/utf8.acceptRanges", laid_unicode_utf8_acceptRanges), ("unicode/utf8.first", laid_unicode_utf8_first)] }
def IntakeDropsSaid : Prop := intakeDropsRow.holds Tryz.pinned (OpenSpec.ofChange intakeDropsSpec)

/-- ITS FALSE NEIGHBOUR: 'it returns false'. Refute it at one input. -/
def intakeDropsWrong : ChangeSpec := { name := "intakeDrops", fn := fun _ => fun
  | [d1, d2, d3, d4] => { results := [.lit (.bool false)], args := [d1, d2, d3, d4] }
  | _ => none }
def IntakeDropsWrongFalsely : Prop := intakeDropsRow.holds Tryz.pinned (OpenSpec.ofChange intakeDropsWrong)

/-- 'ciceronelaw08.IntakeAdmits': WHATEVER THE INPUT: true; the input reads as it did. -/
def intakeAdmitsSpec : ChangeSpec := { name := "intakeAdmits", fn := fun _ => fun
  | [d1, d2, d3, d4] => { results := [.lit (.bool true)], args := [d1, d2, d3, d4] }
  | _ => none }
def intakeAdmitsRow : OpenClaim := { program := "ytoljbbmjbgepiaagreatdoor", sum := "1d4d04dd99f1a082064a88477bca4a06c7796279e1332786e40362637a876155", func := "cicerone/ciceronelaw08.IntakeAdmits", spec := "intakeAdmits", inPlace := ["internal/bytealg.IndexByteString", "internal/bytealg.IndexString", "internal/bytealg.CountString", "slices.overlaps[cicerone/dedupe.Range]", "internal/bytealg.abigen_runtime_cmpstring", "slices.overlaps[cicerone/api.Event]"], unfollowed := true, recurses := true, named := ["internal/bytealg.MaxLen", "unicode/utf8.first", "unicode/utf8.acceptRanges"], plainKeys := false, apart := false, laid := [("unicode/utf8.acceptRanges", laid_unicode_utf8_acceptRanges), ("unicode/utf8.first", laid_unicode_utf8_first)] }
def IntakeAdmitsSaid : Prop := intakeAdmitsRow.holds Tryz.pinned (OpenSpec.ofChange intakeAdmitsSpec)

/-- ITS FALSE NEIGHBOUR: 'it returns false'. Refute it at one input. -/
def intakeAdmitsWrong : ChangeSpec := { name := "intakeAdmits", fn := fun _ => fun
  | [d1, d2, d3, d4] => { results := [.lit (.bool false)], args := [d1, d2, d3, d4] }
  | _ => none }
def IntakeAdmitsWrongFalsely : Prop := intakeAdmitsRow.holds Tryz.pinned (OpenSpec.ofChange intakeAdmitsWrong)

/- THE SECOND FORM. 'bulk': how many values and letters a reading holds, each counted each time it is reached (what is shared counts as often as it is met; a slice's spare places count too). A statement '..UptoSaid' is the law's where the arguments, and the package variables that the reading takes, are together of bulk at most 1048576: NARROWER than '..Said'. Prove '..Said' where nothing that the law and all that it calls make is longer than what came in: it says more and counts as full. Else prove '..UptoSaid'. A law counts once. -/
mutual
def uptoBulk {H : Type} : DataW H → Nat
  | .lit (.string bytes) => bytes.length + 1
  | .lit _ => 1
  | .nil => 1
  | .ptr d => uptoBulk d + 1
  | .slice elems spare => uptoBulkAll elems + uptoBulkAll spare + 1
  | .agg parts => uptoBulkAll parts + 1
  | .iface _ d => uptoBulk d + 1
  | .map entries => uptoBulkEntries entries + 1
  | .held _ => 1
def uptoBulkAll {H : Type} : List (DataW H) → Nat
  | [] => 0
  | d :: r => uptoBulk d + uptoBulkAll r
def uptoBulkEntries {H : Type} : List (Lit × DataW H) → Nat
  | [] => 0
  | x :: r => uptoBulkEntry x + uptoBulkEntries r
def uptoBulkEntry {H : Type} : Lit × DataW H → Nat
  | (.string bytes, d) => bytes.length + uptoBulk d + 1
  | (_, d) => uptoBulk d + 1
 end
def uptoSmall : (H : Type) → List (DataW H) → Bool := fun _ ds => decide (uptoBulkAll ds ≤ 1048576)
def OpenSpec.upto (s : _root_.Go.ChangeSpec) : _root_.Go.OpenSpec := { _root_.Go.OpenSpec.ofChange s with cond := some uptoSmall }

/-- 'ciceronelaw08.IntakeOrder', WHERE WHAT IT READS IS OF BULK AT MOST 1048576: true; the input reads as it did. -/
def intakeOrderUptoRow : OpenClaim := { program := "ytoljbbmjbgepiaagreatdoor", sum := "1d4d04dd99f1a082064a88477bca4a06c7796279e1332786e40362637a876155", func := "cicerone/ciceronelaw08.IntakeOrder", spec := "intakeOrder", inPlace := ["internal/bytealg.IndexByteString", "internal/bytealg.IndexString", "internal/bytealg.CountString", "slices.overlaps[cicerone/dedupe.Range]", "internal/bytealg.abigen_runtime_cmpstring", "slices.overlaps[cicerone/api.Event]"], unfollowed := true, recurses := true, named := ["internal/bytealg.MaxLen", "unicode/utf8.first", "unicode/utf8.acceptRanges"], plainKeys := false, apart := false, laid := [("unicode/utf8.acceptRanges", laid_unicode_utf8_acceptRanges), ("unicode/utf8.first", laid_unicode_utf8_first)], narrowed := true }
def IntakeOrderUptoSaid : Prop := intakeOrderUptoRow.holds Tryz.pinned (OpenSpec.upto intakeOrderSpec)

/-- 'ciceronelaw31.EraseDrops', WHERE WHAT IT READS IS OF BULK AT MOST 1048576: true; the input reads as it did. -/
def eraseDropsUptoRow : OpenClaim := { program := "ytoljbbmjbgepiaagreatdoor", sum := "1d4d04dd99f1a082064a88477bca4a06c7796279e1332786e40362637a876155", func := "cicerone/ciceronelaw31.EraseDrops", spec := "eraseDrops", inPlace := ["internal/bytealg.IndexByteString", "internal/bytealg.IndexString", "internal/bytealg.CountString", "slices.overlaps[cicerone/dedupe.Range]", "internal/bytealg.abigen_runtime_cmpstring", "slices.overlaps[cicerone/api.Event]"], unfollowed := true, recurses := true, named := ["internal/bytealg.MaxLen", "unicode/utf8.first", "unicode/utf8.acceptRanges"], plainKeys := false, apart := false, laid := [("unicode/utf8.acceptRanges", laid_unicode_utf8_acceptRanges), ("unicode/utf8.first", laid_unicode_utf8_first)], narrowed := true }
def EraseDropsUptoSaid : Prop := eraseDropsUptoRow.holds Tryz.pinned (OpenSpec.upto eraseDropsSpec)

/-- 'ciceronelaw08.IntakePlays', WHERE WHAT IT READS IS OF BULK AT MOST 1048576: true; the input reads as it did. -/
def intakePlaysUptoRow : OpenClaim := { program := "ytoljbbmjbgepiaagreatdoor", sum := "1d4d04dd99f1a082064a88477bca4a06c7796279e1332786e40362637a876155", func := "cicerone/ciceronelaw08.IntakePlays", spec := "intakePlays", inPlace := ["internal/bytealg.IndexByteString", "internal/bytealg.IndexString", "internal/bytealg.CountString", "slices.overlaps[cicerone/dedupe.Range]", "internal/bytealg.abigen_runtime_cmpstring", "slices.overlaps[cicerone/api.Event]"], unfollowed := true, recurses := true, named := ["internal/bytealg.MaxLen", "unicode/utf8.first", "unicode/utf8.acceptRanges"], plainKeys := false, apart := false, laid := [("unicode/utf8.acceptRanges", laid_unicode_utf8_acceptRanges), ("unicode/utf8.first", laid_unicode_utf8_first)], narrowed := true }
def IntakePlaysUptoSaid : Prop := intakePlaysUptoRow.holds Tryz.pinned (OpenSpec.upto intakePlaysSpec)

/-- 'ciceronelaw08.IntakeTwice', WHERE WHAT IT READS IS OF BULK AT MOST 1048576: true; the input reads as it did. -/
def intakeTwiceUptoRow : OpenClaim := { program := "ytoljbbmjbgepiaagreatdoor", sum := "1d4d04dd99f1a082064a88477bca4a06c7796279e1332786e40362637a876155", func := "cicerone/ciceronelaw08.IntakeTwice", spec := "intakeTwice", inPlace := ["internal/bytealg.IndexByteString", "internal/bytealg.IndexString", "internal/bytealg.CountString", "slices.overlaps[cicerone/dedupe.Range]", "internal/bytealg.abigen_runtime_cmpstring", "slices.overlaps[cicerone/api.Event]"], unfollowed := true, recurses := true, named := ["internal/bytealg.MaxLen", "unicode/utf8.first", "unicode/utf8.acceptRanges"], plainKeys := false, apart := false, laid := [("unicode/utf8.acceptRanges", laid_unicode_utf8_acceptRanges), ("unicode/utf8.first", laid_unicode_utf8_first)], narrowed := true }
def IntakeTwiceUptoSaid : Prop := intakeTwiceUptoRow.holds Tryz.pinned (OpenSpec.upto intakeTwiceSpec)

/-- 'ciceronelaw08.IntakeForgets', WHERE WHAT IT READS IS OF BULK AT MOST 1048576: true; the input reads as it did. -/
def intakeForgetsUptoRow : OpenClaim := { program := "ytoljbbmjbgepiaagreatdoor", sum := "1d4d04dd99f1a082064a88477bca4a06c7796279e1332786e40362637a876155", func := "cicerone/ciceronelaw08.IntakeForgets", spec := "intakeForgets", inPlace := ["internal/bytealg.IndexByteString", "internal/bytealg.IndexString", "internal/bytealg.CountString", "slices.overlaps[cicerone/dedupe.Range]", "internal/bytealg.abigen_runtime_cmpstring", "slices.overlaps[cicerone/api.Event]"], unfollowed := true, recurses := true, named := ["internal/bytealg.MaxLen", "unicode/utf8.first", "unicode/utf8.acceptRanges"], plainKeys := false, apart := false, laid := [("unicode/utf8.acceptRanges", laid_unicode_utf8_acceptRanges), ("unicode/utf8.first", laid_unicode_utf8_first)], narrowed := true }
def IntakeForgetsUptoSaid : Prop := intakeForgetsUptoRow.holds Tryz.pinned (OpenSpec.upto intakeForgetsSpec)

/-- 'ciceronelaw08.IntakeDrops', WHERE WHAT IT READS IS OF BULK AT MOST 1048576: true; the input reads as it did. -/
def intakeDropsUptoRow : OpenClaim := { program := "ytoljbbmjbgepiaagreatdoor", sum := "1d4d04dd99f1a082064a88477bca4a06c7796279e1332786e40362637a876155", func := "cicerone/ciceronelaw08.IntakeDrops", spec := "intakeDrops", inPlace := ["internal/bytealg.IndexByteString", "internal/bytealg.IndexString", "internal/bytealg.CountString", "slices.overlaps[cicerone/dedupe.Range]", "internal/bytealg.abigen_runtime_cmpstring", "slices.overlaps[cicerone/api.Event]"], unfollowed := true, recurses := true, named := ["internal/bytealg.MaxLen", "unicode/utf8.first", "unicode/utf8.acceptRanges"], plainKeys := false, apart := false, laid := [("unicode/utf8.acceptRanges", laid_unicode_utf8_acceptRanges), ("unicode/utf8.first", laid_unicode_utf8_first)], narrowed := true }
def IntakeDropsUptoSaid : Prop := intakeDropsUptoRow.holds Tryz.pinned (OpenSpec.upto intakeDropsSpec)

/-- 'ciceronelaw08.IntakeAdmits', WHERE WHAT IT READS IS OF BULK AT MOST 1048576: true; the input reads as it did. -/
def intakeAdmitsUptoRow : OpenClaim := { program := "ytoljbbmjbgepiaagreatdoor", sum := "1d4d04dd99f1a082064a88477bca4a06c7796279e1332786e40362637a876155", func := "cicerone/ciceronelaw08.IntakeAdmits", spec := "intakeAdmits", inPlace := ["internal/bytealg.IndexByteString", "internal/bytealg.IndexString", "internal/bytealg.CountString", "slices.overlaps[cicerone/dedupe.Range]", "internal/bytealg.abigen_runtime_cmpstring", "slices.overlaps[cicerone/api.Event]"], unfollowed := true, recurses := true, named := ["internal/bytealg.MaxLen", "unicode/utf8.first", "unicode/utf8.acceptRanges"], plainKeys := false, apart := false, laid := [("unicode/utf8.acceptRanges", laid_unicode_utf8_acceptRanges), ("unicode/utf8.first", laid_unicode_utf8_first)], narrowed := true }
def IntakeAdmitsUptoSaid : Prop := intakeAdmitsUptoRow.holds Tryz.pinned (OpenSpec.upto intakeAdmitsSpec)

end Rows
end Go.Proofs.YtoljbbmjbgepiaaGreatDoor
