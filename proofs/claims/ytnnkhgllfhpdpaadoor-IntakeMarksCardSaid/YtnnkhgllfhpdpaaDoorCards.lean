/-
  DERIVED. GIVEN WITH THE SEED: THE CARDS: each row of YtnnkhgllfhpdpaaDoorRows.lean that lists a variable, with what it lists TIED to the program's text (the seventh form; the later family's looks); each row that meets fmt, with fmt's text TOLD by the authors' own Lean function (tested against real Go, not proved from fmt's source: count such statements apart). THE CARD IS WHAT COUNTS. Prove the row's statement (the work); the ties are given (YtnnkhgllfhpdpaaDoorTie.lean); close each card by the builder's one call (the guide's Derived/Test/ToyasCard.lean, 'card_holds'). Laid BY PROGRAM, IN A SANDBOX (cutbox-door.mjs). By AI agents, Wed Nov 11 2026. No macro, syntax, notation, axiom, sorry.
-/
import Derived.Test.YtnnkhgllfhpdpaaDoorRows
import GoSem.ClaimSeven
namespace Go.Proofs.YtnnkhgllfhpdpaaDoor
namespace Rows

/-- THE TIED CARD OF 'ciceronelaw08.IntakeMarks'. -/
def intakeMarksCard : Claim7 := { stood := { row := intakeMarksRow, standIns := [], harness := (true, "cc132f990effd2698f958c7a173d583e686905d390961c9b39f01440e401e57f"), looks := false }, kinds := [], alts := [], laidByText := true, laidKinds := [.data, .pinned], laidTests := true, laidLooks := .later }
def IntakeMarksCardSaid : Prop := Claim7.holds Tryd.pinned (.plain (OpenSpec.ofChange intakeMarksSpec)) intakeMarksCard

/-- THE TIED CARD OF 'ciceronelaw31.EraseLists'. -/
def eraseListsCard : Claim7 := { stood := { row := eraseListsRow, standIns := [], harness := (true, "cc132f990effd2698f958c7a173d583e686905d390961c9b39f01440e401e57f"), looks := false }, kinds := [], alts := [], laidByText := true, laidKinds := [.data, .pinned], laidTests := true, laidLooks := .later }
def EraseListsCardSaid : Prop := Claim7.holds Tryd.pinned (.plain (OpenSpec.ofChange eraseListsSpec)) eraseListsCard

/-- THE TIED CARD OF 'ciceronelaw31.EraseAgain'. -/
def eraseAgainCard : Claim7 := { stood := { row := eraseAgainRow, standIns := [], harness := (true, "cc132f990effd2698f958c7a173d583e686905d390961c9b39f01440e401e57f"), looks := false }, kinds := [], alts := [], laidByText := true, laidKinds := [.data, .pinned], laidTests := true, laidLooks := .later }
def EraseAgainCardSaid : Prop := Claim7.holds Tryd.pinned (.plain (OpenSpec.ofChange eraseAgainSpec)) eraseAgainCard

/-- THE TIED CARD OF 'ciceronelaw31.EraseApart'. -/
def eraseApartCard : Claim7 := { stood := { row := eraseApartRow, standIns := [], harness := (true, "cc132f990effd2698f958c7a173d583e686905d390961c9b39f01440e401e57f"), looks := false }, kinds := [], alts := [], laidByText := true, laidKinds := [.data, .pinned], laidTests := true, laidLooks := .later }
def EraseApartCardSaid : Prop := Claim7.holds Tryd.pinned (.plain (OpenSpec.ofChange eraseApartSpec)) eraseApartCard

/-- THE SECOND FORM's CARD OF 'ciceronelaw08.IntakeMarks'. -/
def intakeMarksUptoCard : Claim7 := { stood := { row := intakeMarksUptoRow, standIns := [], harness := (true, "cc132f990effd2698f958c7a173d583e686905d390961c9b39f01440e401e57f"), looks := false }, kinds := [], alts := [], laidByText := true, laidKinds := [.data, .pinned], laidTests := true, laidLooks := .later }
def IntakeMarksUptoCardSaid : Prop := Claim7.holds Tryd.pinned (.plain (OpenSpec.upto intakeMarksSpec)) intakeMarksUptoCard

/-- THE SECOND FORM's CARD OF 'ciceronelaw31.EraseLists'. -/
def eraseListsUptoCard : Claim7 := { stood := { row := eraseListsUptoRow, standIns := [], harness := (true, "cc132f990effd2698f958c7a173d583e686905d390961c9b39f01440e401e57f"), looks := false }, kinds := [], alts := [], laidByText := true, laidKinds := [.data, .pinned], laidTests := true, laidLooks := .later }
def EraseListsUptoCardSaid : Prop := Claim7.holds Tryd.pinned (.plain (OpenSpec.upto eraseListsSpec)) eraseListsUptoCard

/-- THE SECOND FORM's CARD OF 'ciceronelaw31.EraseAgain'. -/
def eraseAgainUptoCard : Claim7 := { stood := { row := eraseAgainUptoRow, standIns := [], harness := (true, "cc132f990effd2698f958c7a173d583e686905d390961c9b39f01440e401e57f"), looks := false }, kinds := [], alts := [], laidByText := true, laidKinds := [.data, .pinned], laidTests := true, laidLooks := .later }
def EraseAgainUptoCardSaid : Prop := Claim7.holds Tryd.pinned (.plain (OpenSpec.upto eraseAgainSpec)) eraseAgainUptoCard

/-- THE SECOND FORM's CARD OF 'ciceronelaw31.EraseApart'. -/
def eraseApartUptoCard : Claim7 := { stood := { row := eraseApartUptoRow, standIns := [], harness := (true, "cc132f990effd2698f958c7a173d583e686905d390961c9b39f01440e401e57f"), looks := false }, kinds := [], alts := [], laidByText := true, laidKinds := [.data, .pinned], laidTests := true, laidLooks := .later }
def EraseApartUptoCardSaid : Prop := Claim7.holds Tryd.pinned (.plain (OpenSpec.upto eraseApartSpec)) eraseApartUptoCard
end Rows
end Go.Proofs.YtnnkhgllfhpdpaaDoor
