/-
  DERIVED. GIVEN WITH THE SEED: THE CARDS: each row of YtdjoaboalknlkaaGreatDoorRows.lean that lists a variable, with what it lists TIED to the program's text (the seventh form; the later family's looks); each row that meets fmt, with fmt's text TOLD by the authors' own Lean function (tested against real Go, not proved from fmt's source: count such statements apart). THE CARD IS WHAT COUNTS. Prove the row's statement (the work); the ties are given (YtdjoaboalknlkaaGreatDoorTie.lean); close each card by the builder's one call (the guide's Derived/Test/ToyasCard.lean, 'card_holds'). Laid BY PROGRAM, IN A SANDBOX (cutbox-door.mjs). By AI agents, Wed Nov 11 2026. No macro, syntax, notation, axiom, sorry.
-/
import Derived.Test.YtdjoaboalknlkaaGreatDoorRows
import GoSem.ClaimSeven
namespace Go.Proofs.YtdjoaboalknlkaaGreatDoor
namespace Rows

/-- THE TIED CARD OF 'ciceronelaw30.SnapshotLoads'. -/
def snapshotLoadsCard : Claim7 := { stood := { row := snapshotLoadsRow, standIns := [], harness := (true, "d44b2d23c6333dcd59bae7dea72bc00df769574347095c2e5eddaf4debfbb27a"), looks := true }, kinds := [], alts := [], laidByText := true, laidKinds := [.data, .data, .data, .data, .sentinel, .sentinel, .pinned], laidTests := true, laidLooks := .later }
def SnapshotLoadsCardSaid : Prop := Claim7.holds Tryz.pinned (.plain (OpenSpec.ofChange snapshotLoadsSpec)) snapshotLoadsCard

/-- THE SECOND FORM's CARD OF 'ciceronelaw30.SnapshotLoads'. -/
def snapshotLoadsUptoCard : Claim7 := { stood := { row := snapshotLoadsUptoRow, standIns := [], harness := (true, "d44b2d23c6333dcd59bae7dea72bc00df769574347095c2e5eddaf4debfbb27a"), looks := true }, kinds := [], alts := [], laidByText := true, laidKinds := [.data, .data, .data, .data, .sentinel, .sentinel, .pinned], laidTests := true, laidLooks := .later }
def SnapshotLoadsUptoCardSaid : Prop := Claim7.holds Tryz.pinned (.plain (OpenSpec.upto snapshotLoadsSpec)) snapshotLoadsUptoCard
end Rows
end Go.Proofs.YtdjoaboalknlkaaGreatDoor
