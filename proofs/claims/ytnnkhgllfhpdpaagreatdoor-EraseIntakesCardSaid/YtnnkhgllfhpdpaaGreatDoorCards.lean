/-
  DERIVED. GIVEN WITH THE SEED: THE CARDS: each row of YtnnkhgllfhpdpaaGreatDoorRows.lean that lists a variable, with what it lists TIED to the program's text (the seventh form; the later family's looks); each row that meets fmt, with fmt's text TOLD by the authors' own Lean function (tested against real Go, not proved from fmt's source: count such statements apart). THE CARD IS WHAT COUNTS. Prove the row's statement (the work); the ties are given (YtnnkhgllfhpdpaaGreatDoorTie.lean); close each card by the builder's one call (the guide's Derived/Test/ToyasCard.lean, 'card_holds'). Laid BY PROGRAM, IN A SANDBOX (cutbox-door.mjs). By AI agents, Wed Nov 11 2026. No macro, syntax, notation, axiom, sorry.
-/
import Derived.Test.YtnnkhgllfhpdpaaGreatDoorRows
import GoSem.ClaimSeven
namespace Go.Proofs.YtnnkhgllfhpdpaaGreatDoor
namespace Rows

/-- THE TIED CARD OF 'ciceronelaw08.IntakeOrder'. -/
def intakeOrderCard : Claim7 := { stood := { row := intakeOrderRow, standIns := [], harness := (true, "d7445f4a0c0d2fb1a04bd2c7b56982d1fde805f2d3fc68b1e2dd7b09c6904d68"), looks := false }, kinds := [], alts := [], laidByText := true, laidKinds := [.data, .pinned], laidTests := true, laidLooks := .later }
def IntakeOrderCardSaid : Prop := Claim7.holds Tryz.pinned (.plain (OpenSpec.ofChange intakeOrderSpec)) intakeOrderCard

/-- THE TIED CARD OF 'ciceronelaw31.EraseIntakes'. -/
def eraseIntakesCard : Claim7 := { stood := { row := eraseIntakesRow, standIns := [], harness := (true, "d7445f4a0c0d2fb1a04bd2c7b56982d1fde805f2d3fc68b1e2dd7b09c6904d68"), looks := false }, kinds := [], alts := [], laidByText := true, laidKinds := [.data, .pinned], laidTests := true, laidLooks := .later }
def EraseIntakesCardSaid : Prop := Claim7.holds Tryz.pinned (.plain (OpenSpec.ofChange eraseIntakesSpec)) eraseIntakesCard

/-- THE TIED CARD OF 'ciceronelaw31.EraseDrops'. -/
def eraseDropsCard : Claim7 := { stood := { row := eraseDropsRow, standIns := [], harness := (true, "d7445f4a0c0d2fb1a04bd2c7b56982d1fde805f2d3fc68b1e2dd7b09c6904d68"), looks := false }, kinds := [], alts := [], laidByText := true, laidKinds := [.data, .pinned], laidTests := true, laidLooks := .later }
def EraseDropsCardSaid : Prop := Claim7.holds Tryz.pinned (.plain (OpenSpec.ofChange eraseDropsSpec)) eraseDropsCard

/-- THE SECOND FORM's CARD OF 'ciceronelaw08.IntakeOrder'. -/
def intakeOrderUptoCard : Claim7 := { stood := { row := intakeOrderUptoRow, standIns := [], harness := (true, "d7445f4a0c0d2fb1a04bd2c7b56982d1fde805f2d3fc68b1e2dd7b09c6904d68"), looks := false }, kinds := [], alts := [], laidByText := true, laidKinds := [.data, .pinned], laidTests := true, laidLooks := .later }
def IntakeOrderUptoCardSaid : Prop := Claim7.holds Tryz.pinned (.plain (OpenSpec.upto intakeOrderSpec)) intakeOrderUptoCard

/-- THE SECOND FORM's CARD OF 'ciceronelaw31.EraseIntakes'. -/
def eraseIntakesUptoCard : Claim7 := { stood := { row := eraseIntakesUptoRow, standIns := [], harness := (true, "d7445f4a0c0d2fb1a04bd2c7b56982d1fde805f2d3fc68b1e2dd7b09c6904d68"), looks := false }, kinds := [], alts := [], laidByText := true, laidKinds := [.data, .pinned], laidTests := true, laidLooks := .later }
def EraseIntakesUptoCardSaid : Prop := Claim7.holds Tryz.pinned (.plain (OpenSpec.upto eraseIntakesSpec)) eraseIntakesUptoCard

/-- THE SECOND FORM's CARD OF 'ciceronelaw31.EraseDrops'. -/
def eraseDropsUptoCard : Claim7 := { stood := { row := eraseDropsUptoRow, standIns := [], harness := (true, "d7445f4a0c0d2fb1a04bd2c7b56982d1fde805f2d3fc68b1e2dd7b09c6904d68"), looks := false }, kinds := [], alts := [], laidByText := true, laidKinds := [.data, .pinned], laidTests := true, laidLooks := .later }
def EraseDropsUptoCardSaid : Prop := Claim7.holds Tryz.pinned (.plain (OpenSpec.upto eraseDropsSpec)) eraseDropsUptoCard
end Rows
end Go.Proofs.YtnnkhgllfhpdpaaGreatDoor
