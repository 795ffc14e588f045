/-
  DERIVED. GIVEN WITH THE SEED: THE CARDS: each row of YtejjfhhppjdcaaaGreatDoorRows.lean that lists a variable, with what it lists TIED to the program's text (the seventh form; the later family's looks); each row that meets fmt, with fmt's text TOLD by the authors' own Lean function (tested against real Go, not proved from fmt's source: count such statements apart). THE CARD IS WHAT COUNTS. Prove the row's statement (the work); the ties are given (YtejjfhhppjdcaaaGreatDoorTie.lean); close each card by the builder's one call (the guide's Derived/Test/ToyasCard.lean, 'card_holds'). Laid BY PROGRAM, IN A SANDBOX (cutbox-door.mjs). By AI agents, Wed Nov 11 2026. No macro, syntax, notation, axiom, sorry.
-/
import Derived.Test.YtejjfhhppjdcaaaGreatDoorRows
import GoSem.ClaimSeven
namespace Go.Proofs.YtejjfhhppjdcaaaGreatDoor
namespace Rows

/-- THE TIED CARD OF 'ciceronelaw05.JournalBatches'. -/
def journalBatchesCard : Claim7 := { stood := { row := journalBatchesRow, standIns := [], harness := (true, "cd7f8be2745cb62093ca982ef324a6ff7461e35633eef5634c4369731225cb8b"), looks := false }, kinds := [], alts := [], laidByText := true, laidKinds := [.data, .data, .data, .data, .pinned], laidTests := true, laidLooks := .later }
def JournalBatchesCardSaid : Prop := Claim7.holds Tryz.pinned (.plain (OpenSpec.ofChange journalBatchesSpec)) journalBatchesCard

/-- THE TIED CARD OF 'ciceronelaw05.JournalSpoilt'. -/
def journalSpoiltCard : Claim7 := { stood := { row := journalSpoiltRow, standIns := [], harness := (true, "cd7f8be2745cb62093ca982ef324a6ff7461e35633eef5634c4369731225cb8b"), looks := false }, kinds := [], alts := [], laidByText := true, laidKinds := [.data, .data, .data, .data, .pinned], laidTests := true, laidLooks := .later }
def JournalSpoiltCardSaid : Prop := Claim7.holds Tryz.pinned (.plain (OpenSpec.ofChange journalSpoiltSpec)) journalSpoiltCard

/-- THE TIED CARD OF 'ciceronelaw05.JournalFuses'. -/
def journalFusesCard : Claim7 := { stood := { row := journalFusesRow, standIns := [], harness := (true, "cd7f8be2745cb62093ca982ef324a6ff7461e35633eef5634c4369731225cb8b"), looks := false }, kinds := [], alts := [], laidByText := true, laidKinds := [.data, .data, .data, .data, .pinned], laidTests := true, laidLooks := .later }
def JournalFusesCardSaid : Prop := Claim7.holds Tryz.pinned (.plain (OpenSpec.ofChange journalFusesSpec)) journalFusesCard

/-- THE TIED CARD OF 'ciceronelaw05.JournalErases'. -/
def journalErasesCard : Claim7 := { stood := { row := journalErasesRow, standIns := [], harness := (true, "cd7f8be2745cb62093ca982ef324a6ff7461e35633eef5634c4369731225cb8b"), looks := false }, kinds := [], alts := [], laidByText := true, laidKinds := [.data, .data, .data, .data, .pinned], laidTests := true, laidLooks := .later }
def JournalErasesCardSaid : Prop := Claim7.holds Tryz.pinned (.plain (OpenSpec.ofChange journalErasesSpec)) journalErasesCard

/-- THE TIED CARD OF 'ciceronelaw05.JournalPlays'. -/
def journalPlaysCard : Claim7 := { stood := { row := journalPlaysRow, standIns := [], harness := (true, "cd7f8be2745cb62093ca982ef324a6ff7461e35633eef5634c4369731225cb8b"), looks := false }, kinds := [], alts := [], laidByText := true, laidKinds := [.data, .data, .data, .data, .pinned], laidTests := true, laidLooks := .later }
def JournalPlaysCardSaid : Prop := Claim7.holds Tryz.pinned (.plain (OpenSpec.ofChange journalPlaysSpec)) journalPlaysCard

/-- THE TIED CARD OF 'ciceronelaw05.JournalOpens'. -/
def journalOpensCard : Claim7 := { stood := { row := journalOpensRow, standIns := [], harness := (true, "cd7f8be2745cb62093ca982ef324a6ff7461e35633eef5634c4369731225cb8b"), looks := false }, kinds := [], alts := [], laidByText := true, laidKinds := [.data, .data, .data, .data, .pinned], laidTests := true, laidLooks := .later }
def JournalOpensCardSaid : Prop := Claim7.holds Tryz.pinned (.plain (OpenSpec.ofChange journalOpensSpec)) journalOpensCard

/-- THE TIED CARD OF 'ciceronelaw05.JournalCrashes'. -/
def journalCrashesCard : Claim7 := { stood := { row := journalCrashesRow, standIns := [], harness := (true, "cd7f8be2745cb62093ca982ef324a6ff7461e35633eef5634c4369731225cb8b"), looks := false }, kinds := [], alts := [], laidByText := true, laidKinds := [.data, .data, .data, .data, .pinned], laidTests := true, laidLooks := .later }
def JournalCrashesCardSaid : Prop := Claim7.holds Tryz.pinned (.plain (OpenSpec.ofChange journalCrashesSpec)) journalCrashesCard

/-- THE TIED CARD OF 'ciceronelaw05.JournalCutsOff'. -/
def journalCutsOffCard : Claim7 := { stood := { row := journalCutsOffRow, standIns := [], harness := (true, "cd7f8be2745cb62093ca982ef324a6ff7461e35633eef5634c4369731225cb8b"), looks := false }, kinds := [], alts := [], laidByText := true, laidKinds := [.data, .data, .data, .data, .pinned], laidTests := true, laidLooks := .later }
def JournalCutsOffCardSaid : Prop := Claim7.holds Tryz.pinned (.plain (OpenSpec.ofChange journalCutsOffSpec)) journalCutsOffCard

/-- THE TIED CARD OF 'ciceronelaw31.EraseBytes'. -/
def eraseBytesCard : Claim7 := { stood := { row := eraseBytesRow, standIns := [], harness := (true, "cd7f8be2745cb62093ca982ef324a6ff7461e35633eef5634c4369731225cb8b"), looks := false }, kinds := [], alts := [], laidByText := true, laidKinds := [.data, .data, .data, .data, .pinned], laidTests := true, laidLooks := .later }
def EraseBytesCardSaid : Prop := Claim7.holds Tryz.pinned (.plain (OpenSpec.ofChange eraseBytesSpec)) eraseBytesCard

/-- THE TIED CARD OF 'ciceronelaw31.EraseLogs'. -/
def eraseLogsCard : Claim7 := { stood := { row := eraseLogsRow, standIns := [], harness := (true, "cd7f8be2745cb62093ca982ef324a6ff7461e35633eef5634c4369731225cb8b"), looks := false }, kinds := [], alts := [], laidByText := true, laidKinds := [.data, .data, .data, .data, .pinned], laidTests := true, laidLooks := .later }
def EraseLogsCardSaid : Prop := Claim7.holds Tryz.pinned (.plain (OpenSpec.ofChange eraseLogsSpec)) eraseLogsCard

/-- THE TIED CARD OF 'ciceronelaw31.EraseCut'. -/
def eraseCutCard : Claim7 := { stood := { row := eraseCutRow, standIns := [], harness := (true, "cd7f8be2745cb62093ca982ef324a6ff7461e35633eef5634c4369731225cb8b"), looks := false }, kinds := [], alts := [], laidByText := true, laidKinds := [.data, .data, .data, .data, .pinned], laidTests := true, laidLooks := .later }
def EraseCutCardSaid : Prop := Claim7.holds Tryz.pinned (.plain (OpenSpec.ofChange eraseCutSpec)) eraseCutCard

/-- THE SECOND FORM's CARD OF 'ciceronelaw05.JournalBatches'. -/
def journalBatchesUptoCard : Claim7 := { stood := { row := journalBatchesUptoRow, standIns := [], harness := (true, "cd7f8be2745cb62093ca982ef324a6ff7461e35633eef5634c4369731225cb8b"), looks := false }, kinds := [], alts := [], laidByText := true, laidKinds := [.data, .data, .data, .data, .pinned], laidTests := true, laidLooks := .later }
def JournalBatchesUptoCardSaid : Prop := Claim7.holds Tryz.pinned (.plain (OpenSpec.upto journalBatchesSpec)) journalBatchesUptoCard

/-- THE SECOND FORM's CARD OF 'ciceronelaw05.JournalSpoilt'. -/
def journalSpoiltUptoCard : Claim7 := { stood := { row := journalSpoiltUptoRow, standIns := [], harness := (true, "cd7f8be2745cb62093ca982ef324a6ff7461e35633eef5634c4369731225cb8b"), looks := false }, kinds := [], alts := [], laidByText := true, laidKinds := [.data, .data, .data, .data, .pinned], laidTests := true, laidLooks := .later }
def JournalSpoiltUptoCardSaid : Prop := Claim7.holds Tryz.pinned (.plain (OpenSpec.upto journalSpoiltSpec)) journalSpoiltUptoCard

/-- THE SECOND FORM's CARD OF 'ciceronelaw05.JournalFuses'. -/
def journalFusesUptoCard : Claim7 := { stood := { row := journalFusesUptoRow, standIns := [], harness := (true, "cd7f8be2745cb62093ca982ef324a6ff7461e35633eef5634c4369731225cb8b"), looks := false }, kinds := [], alts := [], laidByText := true, laidKinds := [.data, .data, .data, .data, .pinned], laidTests := true, laidLooks := .later }
def JournalFusesUptoCardSaid : Prop := Claim7.holds Tryz.pinned (.plain (OpenSpec.upto journalFusesSpec)) journalFusesUptoCard

/-- THE SECOND FORM's CARD OF 'ciceronelaw05.JournalErases'. -/
def journalErasesUptoCard : Claim7 := { stood := { row := journalErasesUptoRow, standIns := [], harness := (true, "cd7f8be2745cb62093ca982ef324a6ff7461e35633eef5634c4369731225cb8b"), looks := false }, kinds := [], alts := [], laidByText := true, laidKinds := [.data, .data, .data, .data, .pinned], laidTests := true, laidLooks := .later }
def JournalErasesUptoCardSaid : Prop := Claim7.holds Tryz.pinned (.plain (OpenSpec.upto journalErasesSpec)) journalErasesUptoCard

/-- THE SECOND FORM's CARD OF 'ciceronelaw05.JournalPlays'. -/
def journalPlaysUptoCard : Claim7 := { stood := { row := journalPlaysUptoRow, standIns := [], harness := (true, "cd7f8be2745cb62093ca982ef324a6ff7461e35633eef5634c4369731225cb8b"), looks := false }, kinds := [], alts := [], laidByText := true, laidKinds := [.data, .data, .data, .data, .pinned], laidTests := true, laidLooks := .later }
def JournalPlaysUptoCardSaid : Prop := Claim7.holds Tryz.pinned (.plain (OpenSpec.upto journalPlaysSpec)) journalPlaysUptoCard

/-- THE SECOND FORM's CARD OF 'ciceronelaw05.JournalOpens'. -/
def journalOpensUptoCard : Claim7 := { stood := { row := journalOpensUptoRow, standIns := [], harness := (true, "cd7f8be2745cb62093ca982ef324a6ff7461e35633eef5634c4369731225cb8b"), looks := false }, kinds := [], alts := [], laidByText := true, laidKinds := [.data, .data, .data, .data, .pinned], laidTests := true, laidLooks := .later }
def JournalOpensUptoCardSaid : Prop := Claim7.holds Tryz.pinned (.plain (OpenSpec.upto journalOpensSpec)) journalOpensUptoCard

/-- THE SECOND FORM's CARD OF 'ciceronelaw05.JournalCrashes'. -/
def journalCrashesUptoCard : Claim7 := { stood := { row := journalCrashesUptoRow, standIns := [], harness := (true, "cd7f8be2745cb62093ca982ef324a6ff7461e35633eef5634c4369731225cb8b"), looks := false }, kinds := [], alts := [], laidByText := true, laidKinds := [.data, .data, .data, .data, .pinned], laidTests := true, laidLooks := .later }
def JournalCrashesUptoCardSaid : Prop := Claim7.holds Tryz.pinned (.plain (OpenSpec.upto journalCrashesSpec)) journalCrashesUptoCard

/-- THE SECOND FORM's CARD OF 'ciceronelaw05.JournalCutsOff'. -/
def journalCutsOffUptoCard : Claim7 := { stood := { row := journalCutsOffUptoRow, standIns := [], harness := (true, "cd7f8be2745cb62093ca982ef324a6ff7461e35633eef5634c4369731225cb8b"), looks := false }, kinds := [], alts := [], laidByText := true, laidKinds := [.data, .data, .data, .data, .pinned], laidTests := true, laidLooks := .later }
def JournalCutsOffUptoCardSaid : Prop := Claim7.holds Tryz.pinned (.plain (OpenSpec.upto journalCutsOffSpec)) journalCutsOffUptoCard

/-- THE SECOND FORM's CARD OF 'ciceronelaw31.EraseBytes'. -/
def eraseBytesUptoCard : Claim7 := { stood := { row := eraseBytesUptoRow, standIns := [], harness := (true, "cd7f8be2745cb62093ca982ef324a6ff7461e35633eef5634c4369731225cb8b"), looks := false }, kinds := [], alts := [], laidByText := true, laidKinds := [.data, .data, .data, .data, .pinned], laidTests := true, laidLooks := .later }
def EraseBytesUptoCardSaid : Prop := Claim7.holds Tryz.pinned (.plain (OpenSpec.upto eraseBytesSpec)) eraseBytesUptoCard

/-- THE SECOND FORM's CARD OF 'ciceronelaw31.EraseLogs'. -/
def eraseLogsUptoCard : Claim7 := { stood := { row := eraseLogsUptoRow, standIns := [], harness := (true, "cd7f8be2745cb62093ca982ef324a6ff7461e35633eef5634c4369731225cb8b"), looks := false }, kinds := [], alts := [], laidByText := true, laidKinds := [.data, .data, .data, .data, .pinned], laidTests := true, laidLooks := .later }
def EraseLogsUptoCardSaid : Prop := Claim7.holds Tryz.pinned (.plain (OpenSpec.upto eraseLogsSpec)) eraseLogsUptoCard

/-- THE SECOND FORM's CARD OF 'ciceronelaw31.EraseCut'. -/
def eraseCutUptoCard : Claim7 := { stood := { row := eraseCutUptoRow, standIns := [], harness := (true, "cd7f8be2745cb62093ca982ef324a6ff7461e35633eef5634c4369731225cb8b"), looks := false }, kinds := [], alts := [], laidByText := true, laidKinds := [.data, .data, .data, .data, .pinned], laidTests := true, laidLooks := .later }
def EraseCutUptoCardSaid : Prop := Claim7.holds Tryz.pinned (.plain (OpenSpec.upto eraseCutSpec)) eraseCutUptoCard
end Rows
end Go.Proofs.YtejjfhhppjdcaaaGreatDoor
