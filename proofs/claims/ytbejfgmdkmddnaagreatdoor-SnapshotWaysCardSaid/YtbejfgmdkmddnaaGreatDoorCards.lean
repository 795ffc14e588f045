/-
  DERIVED. GIVEN WITH THE SEED: THE CARDS: each row of YtbejfgmdkmddnaaGreatDoorRows.lean that lists a variable, with what it lists TIED to the program's text (the seventh form; the later family's looks); each row that meets fmt, with fmt's text TOLD by the authors' own Lean function (tested against real Go, not proved from fmt's source: count such statements apart). THE CARD IS WHAT COUNTS. Prove the row's statement (the work); the ties are given (YtbejfgmdkmddnaaGreatDoorTie.lean); close each card by the builder's one call (the guide's Derived/Test/ToyasCard.lean, 'card_holds'). Laid BY PROGRAM, IN A SANDBOX (cutbox-door.mjs). By AI agents, Wed Nov 11 2026. No macro, syntax, notation, axiom, sorry.
-/
import Derived.Test.YtbejfgmdkmddnaaGreatDoorRows
import GoSem.ClaimSeven
namespace Go.Proofs.YtbejfgmdkmddnaaGreatDoor
namespace Rows

/-- THE TIED CARD OF 'ciceronelaw30.SnapshotSpoilt'. -/
def snapshotSpoiltCard : Claim7 := { stood := { row := snapshotSpoiltRow, standIns := [], harness := (true, "9ffdbca3b209c7439c6449c11fbb42a1085404c0c8f813c446935c4381934906"), looks := true }, kinds := [], alts := [], laidByText := true, laidKinds := [.data, .data, .data, .data, .sentinel, .sentinel, .pinned], laidTests := true, laidLooks := .later }
def SnapshotSpoiltCardSaid : Prop := Claim7.holds Tryz.pinned (.plain (OpenSpec.ofChange snapshotSpoiltSpec)) snapshotSpoiltCard

/-- THE TIED CARD OF 'ciceronelaw30.SnapshotOffsets'. -/
def snapshotOffsetsCard : Claim7 := { stood := { row := snapshotOffsetsRow, standIns := [], harness := (true, "9ffdbca3b209c7439c6449c11fbb42a1085404c0c8f813c446935c4381934906"), looks := true }, kinds := [], alts := [], laidByText := true, laidKinds := [.data, .data, .data, .data, .sentinel, .sentinel, .pinned], laidTests := true, laidLooks := .later }
def SnapshotOffsetsCardSaid : Prop := Claim7.holds Tryz.pinned (.plain (OpenSpec.ofChange snapshotOffsetsSpec)) snapshotOffsetsCard

/-- THE TIED CARD OF 'ciceronelaw30.SnapshotForgets'. -/
def snapshotForgetsCard : Claim7 := { stood := { row := snapshotForgetsRow, standIns := [], harness := (true, "9ffdbca3b209c7439c6449c11fbb42a1085404c0c8f813c446935c4381934906"), looks := true }, kinds := [], alts := [], laidByText := true, laidKinds := [.data, .data, .data, .data, .sentinel, .sentinel, .pinned], laidTests := true, laidLooks := .later }
def SnapshotForgetsCardSaid : Prop := Claim7.holds Tryz.pinned (.plain (OpenSpec.ofChange snapshotForgetsSpec)) snapshotForgetsCard

/-- THE TIED CARD OF 'ciceronelaw08.IntakeParts'. -/
def intakePartsCard : Claim7 := { stood := { row := intakePartsRow, standIns := [], harness := (true, "9ffdbca3b209c7439c6449c11fbb42a1085404c0c8f813c446935c4381934906"), looks := true }, kinds := [], alts := [], laidByText := true, laidKinds := [.data, .data, .data, .data, .sentinel, .sentinel, .pinned], laidTests := true, laidLooks := .later }
def IntakePartsCardSaid : Prop := Claim7.holds Tryz.pinned (.plain (OpenSpec.ofChange intakePartsSpec)) intakePartsCard

/-- THE TIED CARD OF 'ciceronelaw30.SnapshotSaves'. -/
def snapshotSavesCard : Claim7 := { stood := { row := snapshotSavesRow, standIns := [], harness := (true, "9ffdbca3b209c7439c6449c11fbb42a1085404c0c8f813c446935c4381934906"), looks := true }, kinds := [], alts := [], laidByText := true, laidKinds := [.data, .data, .data, .data, .sentinel, .sentinel, .pinned], laidTests := true, laidLooks := .later }
def SnapshotSavesCardSaid : Prop := Claim7.holds Tryz.pinned (.plain (OpenSpec.ofChange snapshotSavesSpec)) snapshotSavesCard

/-- THE TIED CARD OF 'ciceronelaw30.SnapshotBack'. -/
def snapshotBackCard : Claim7 := { stood := { row := snapshotBackRow, standIns := [], harness := (true, "9ffdbca3b209c7439c6449c11fbb42a1085404c0c8f813c446935c4381934906"), looks := true }, kinds := [], alts := [], laidByText := true, laidKinds := [.data, .data, .data, .data, .sentinel, .sentinel, .pinned], laidTests := true, laidLooks := .later }
def SnapshotBackCardSaid : Prop := Claim7.holds Tryz.pinned (.plain (OpenSpec.ofChange snapshotBackSpec)) snapshotBackCard

/-- THE TIED CARD OF 'ciceronelaw30.SnapshotWays'. -/
def snapshotWaysCard : Claim7 := { stood := { row := snapshotWaysRow, standIns := [], harness := (true, "9ffdbca3b209c7439c6449c11fbb42a1085404c0c8f813c446935c4381934906"), looks := true }, kinds := [], alts := [], laidByText := true, laidKinds := [.data, .data, .data, .data, .sentinel, .sentinel, .pinned], laidTests := true, laidLooks := .later }
def SnapshotWaysCardSaid : Prop := Claim7.holds Tryz.pinned (.plain (OpenSpec.ofChange snapshotWaysSpec)) snapshotWaysCard

/-- THE SECOND FORM's CARD OF 'ciceronelaw30.SnapshotSpoilt'. -/
def snapshotSpoiltUptoCard : Claim7 := { stood := { row := snapshotSpoiltUptoRow, standIns := [], harness := (true, "9ffdbca3b209c7439c6449c11fbb42a1085404c0c8f813c446935c4381934906"), looks := true }, kinds := [], alts := [], laidByText := true, laidKinds := [.data, .data, .data, .data, .sentinel, .sentinel, .pinned], laidTests := true, laidLooks := .later }
def SnapshotSpoiltUptoCardSaid : Prop := Claim7.holds Tryz.pinned (.plain (OpenSpec.upto snapshotSpoiltSpec)) snapshotSpoiltUptoCard

/-- THE SECOND FORM's CARD OF 'ciceronelaw30.SnapshotOffsets'. -/
def snapshotOffsetsUptoCard : Claim7 := { stood := { row := snapshotOffsetsUptoRow, standIns := [], harness := (true, "9ffdbca3b209c7439c6449c11fbb42a1085404c0c8f813c446935c4381934906"), looks := true }, kinds := [], alts := [], laidByText := true, laidKinds := [.data, .data, .data, .data, .sentinel, .sentinel, .pinned], laidTests := true, laidLooks := .later }
def SnapshotOffsetsUptoCardSaid : Prop := Claim7.holds Tryz.pinned (.plain (OpenSpec.upto snapshotOffsetsSpec)) snapshotOffsetsUptoCard

/-- THE SECOND FORM's CARD OF 'ciceronelaw30.SnapshotForgets'. -/
def snapshotForgetsUptoCard : Claim7 := { stood := { row := snapshotForgetsUptoRow, standIns := [], harness := (true, "9ffdbca3b209c7439c6449c11fbb42a1085404c0c8f813c446935c4381934906"), looks := true }, kinds := [], alts := [], laidByText := true, laidKinds := [.data, .data, .data, .data, .sentinel, .sentinel, .pinned], laidTests := true, laidLooks := .later }
def SnapshotForgetsUptoCardSaid : Prop := Claim7.holds Tryz.pinned (.plain (OpenSpec.upto snapshotForgetsSpec)) snapshotForgetsUptoCard

/-- THE SECOND FORM's CARD OF 'ciceronelaw08.IntakeParts'. -/
def intakePartsUptoCard : Claim7 := { stood := { row := intakePartsUptoRow, standIns := [], harness := (true, "9ffdbca3b209c7439c6449c11fbb42a1085404c0c8f813c446935c4381934906"), looks := true }, kinds := [], alts := [], laidByText := true, laidKinds := [.data, .data, .data, .data, .sentinel, .sentinel, .pinned], laidTests := true, laidLooks := .later }
def IntakePartsUptoCardSaid : Prop := Claim7.holds Tryz.pinned (.plain (OpenSpec.upto intakePartsSpec)) intakePartsUptoCard

/-- THE SECOND FORM's CARD OF 'ciceronelaw30.SnapshotSaves'. -/
def snapshotSavesUptoCard : Claim7 := { stood := { row := snapshotSavesUptoRow, standIns := [], harness := (true, "9ffdbca3b209c7439c6449c11fbb42a1085404c0c8f813c446935c4381934906"), looks := true }, kinds := [], alts := [], laidByText := true, laidKinds := [.data, .data, .data, .data, .sentinel, .sentinel, .pinned], laidTests := true, laidLooks := .later }
def SnapshotSavesUptoCardSaid : Prop := Claim7.holds Tryz.pinned (.plain (OpenSpec.upto snapshotSavesSpec)) snapshotSavesUptoCard

/-- THE SECOND FORM's CARD OF 'ciceronelaw30.SnapshotBack'. -/
def snapshotBackUptoCard : Claim7 := { stood := { row := snapshotBackUptoRow, standIns := [], harness := (true, "9ffdbca3b209c7439c6449c11fbb42a1085404c0c8f813c446935c4381934906"), looks := true }, kinds := [], alts := [], laidByText := true, laidKinds := [.data, .data, .data, .data, .sentinel, .sentinel, .pinned], laidTests := true, laidLooks := .later }
def SnapshotBackUptoCardSaid : Prop := Claim7.holds Tryz.pinned (.plain (OpenSpec.upto snapshotBackSpec)) snapshotBackUptoCard

/-- THE SECOND FORM's CARD OF 'ciceronelaw30.SnapshotWays'. -/
def snapshotWaysUptoCard : Claim7 := { stood := { row := snapshotWaysUptoRow, standIns := [], harness := (true, "9ffdbca3b209c7439c6449c11fbb42a1085404c0c8f813c446935c4381934906"), looks := true }, kinds := [], alts := [], laidByText := true, laidKinds := [.data, .data, .data, .data, .sentinel, .sentinel, .pinned], laidTests := true, laidLooks := .later }
def SnapshotWaysUptoCardSaid : Prop := Claim7.holds Tryz.pinned (.plain (OpenSpec.upto snapshotWaysSpec)) snapshotWaysUptoCard
end Rows
end Go.Proofs.YtbejfgmdkmddnaaGreatDoor
