/-
  DERIVED. GIVEN WITH THE SEED: THE CARDS: each row of YtcmmclliabhnjaaGreatDoorRows.lean that lists a variable, with what it lists TIED to the program's text (the seventh form; the later family's looks); each row that meets fmt, with fmt's text TOLD by the authors' own Lean function (tested against real Go, not proved from fmt's source: count such statements apart). THE CARD IS WHAT COUNTS. Prove the row's statement (the work); the ties are given (YtcmmclliabhnjaaGreatDoorTie.lean); close each card by the builder's one call (the guide's Derived/Test/ToyasCard.lean, 'card_holds'). Laid BY PROGRAM, IN A SANDBOX (cutbox-door.mjs). By AI agents, Wed Nov 11 2026. No macro, syntax, notation, axiom, sorry.
-/
import Derived.Test.YtcmmclliabhnjaaGreatDoorRows
import GoSem.ClaimSeven
namespace Go.Proofs.YtcmmclliabhnjaaGreatDoor
namespace Rows

/-- THE TIED CARD OF 'ciceronetop.TopTwin'. -/
def topTwinCard : Claim7 := { stood := { row := topTwinRow, standIns := [], harness := (true, "66fbcc148de14dc2dc984fb45e7179c2474b6e1b4c397c16e0bd53fd0d5d28cd"), looks := true }, kinds := [], alts := [], laidByText := true, laidKinds := [.data, .data, .data, .data, .sentinel, .sentinel, .data, .data, .pinned], laidTests := true, laidLooks := .later }
def TopTwinCardSaid : Prop := Claim7.holds Tryz.pinned (.plain (OpenSpec.ofChange topTwinSpec)) topTwinCard

/-- THE TIED CARD OF 'ciceronelaw48.TwinMerges'. -/
def twinMergesCard : Claim7 := { stood := { row := twinMergesRow, standIns := [], harness := (true, "66fbcc148de14dc2dc984fb45e7179c2474b6e1b4c397c16e0bd53fd0d5d28cd"), looks := true }, kinds := [], alts := [], laidByText := true, laidKinds := [.data, .data, .data, .data, .sentinel, .sentinel, .data, .pinned], laidTests := true, laidLooks := .later }
def TwinMergesCardSaid : Prop := Claim7.holds Tryz.pinned (.plain (OpenSpec.ofChange twinMergesSpec)) twinMergesCard

/-- THE TIED CARD OF 'ciceronelaw48.TwinTells'. -/
def twinTellsCard : Claim7 := { stood := { row := twinTellsRow, standIns := [], harness := (true, "66fbcc148de14dc2dc984fb45e7179c2474b6e1b4c397c16e0bd53fd0d5d28cd"), looks := true }, kinds := [], alts := [], laidByText := true, laidKinds := [.data, .data, .data, .data, .sentinel, .sentinel, .data, .pinned], laidTests := true, laidLooks := .later }
def TwinTellsCardSaid : Prop := Claim7.holds Tryz.pinned (.plain (OpenSpec.ofChange twinTellsSpec)) twinTellsCard

/-- THE TIED CARD OF 'ciceronelaw48.TwinSame'. -/
def twinSameCard : Claim7 := { stood := { row := twinSameRow, standIns := [], harness := (true, "66fbcc148de14dc2dc984fb45e7179c2474b6e1b4c397c16e0bd53fd0d5d28cd"), looks := true }, kinds := [], alts := [], laidByText := true, laidKinds := [.data, .data, .data, .data, .sentinel, .sentinel, .data, .pinned], laidTests := true, laidLooks := .later }
def TwinSameCardSaid : Prop := Claim7.holds Tryz.pinned (.plain (OpenSpec.ofChange twinSameSpec)) twinSameCard

/-- THE TIED CARD OF 'ciceronelaw48.TwinGoesOn'. -/
def twinGoesOnCard : Claim7 := { stood := { row := twinGoesOnRow, standIns := [], harness := (true, "66fbcc148de14dc2dc984fb45e7179c2474b6e1b4c397c16e0bd53fd0d5d28cd"), looks := true }, kinds := [], alts := [], laidByText := true, laidKinds := [.data, .data, .data, .data, .sentinel, .sentinel, .data, .pinned], laidTests := true, laidLooks := .later }
def TwinGoesOnCardSaid : Prop := Claim7.holds Tryz.pinned (.plain (OpenSpec.ofChange twinGoesOnSpec)) twinGoesOnCard

/-- THE TIED CARD OF 'ciceronelaw48.TwinGone'. -/
def twinGoneCard : Claim7 := { stood := { row := twinGoneRow, standIns := [], harness := (true, "66fbcc148de14dc2dc984fb45e7179c2474b6e1b4c397c16e0bd53fd0d5d28cd"), looks := true }, kinds := [], alts := [], laidByText := true, laidKinds := [.data, .data, .data, .data, .sentinel, .sentinel, .data, .pinned], laidTests := true, laidLooks := .later }
def TwinGoneCardSaid : Prop := Claim7.holds Tryz.pinned (.plain (OpenSpec.ofChange twinGoneSpec)) twinGoneCard

/-- THE SECOND FORM's CARD OF 'ciceronetop.TopTwin'. -/
def topTwinUptoCard : Claim7 := { stood := { row := topTwinUptoRow, standIns := [], harness := (true, "66fbcc148de14dc2dc984fb45e7179c2474b6e1b4c397c16e0bd53fd0d5d28cd"), looks := true }, kinds := [], alts := [], laidByText := true, laidKinds := [.data, .data, .data, .data, .sentinel, .sentinel, .data, .data, .pinned], laidTests := true, laidLooks := .later }
def TopTwinUptoCardSaid : Prop := Claim7.holds Tryz.pinned (.plain (OpenSpec.upto topTwinSpec)) topTwinUptoCard

/-- THE SECOND FORM's CARD OF 'ciceronelaw48.TwinMerges'. -/
def twinMergesUptoCard : Claim7 := { stood := { row := twinMergesUptoRow, standIns := [], harness := (true, "66fbcc148de14dc2dc984fb45e7179c2474b6e1b4c397c16e0bd53fd0d5d28cd"), looks := true }, kinds := [], alts := [], laidByText := true, laidKinds := [.data, .data, .data, .data, .sentinel, .sentinel, .data, .pinned], laidTests := true, laidLooks := .later }
def TwinMergesUptoCardSaid : Prop := Claim7.holds Tryz.pinned (.plain (OpenSpec.upto twinMergesSpec)) twinMergesUptoCard

/-- THE SECOND FORM's CARD OF 'ciceronelaw48.TwinTells'. -/
def twinTellsUptoCard : Claim7 := { stood := { row := twinTellsUptoRow, standIns := [], harness := (true, "66fbcc148de14dc2dc984fb45e7179c2474b6e1b4c397c16e0bd53fd0d5d28cd"), looks := true }, kinds := [], alts := [], laidByText := true, laidKinds := [.data, .data, .data, .data, .sentinel, .sentinel, .data, .pinned], laidTests := true, laidLooks := .later }
def TwinTellsUptoCardSaid : Prop := Claim7.holds Tryz.pinned (.plain (OpenSpec.upto twinTellsSpec)) twinTellsUptoCard

/-- THE SECOND FORM's CARD OF 'ciceronelaw48.TwinSame'. -/
def twinSameUptoCard : Claim7 := { stood := { row := twinSameUptoRow, standIns := [], harness := (true, "66fbcc148de14dc2dc984fb45e7179c2474b6e1b4c397c16e0bd53fd0d5d28cd"), looks := true }, kinds := [], alts := [], laidByText := true, laidKinds := [.data, .data, .data, .data, .sentinel, .sentinel, .data, .pinned], laidTests := true, laidLooks := .later }
def TwinSameUptoCardSaid : Prop := Claim7.holds Tryz.pinned (.plain (OpenSpec.upto twinSameSpec)) twinSameUptoCard

/-- THE SECOND FORM's CARD OF 'ciceronelaw48.TwinGoesOn'. -/
def twinGoesOnUptoCard : Claim7 := { stood := { row := twinGoesOnUptoRow, standIns := [], harness := (true, "66fbcc148de14dc2dc984fb45e7179c2474b6e1b4c397c16e0bd53fd0d5d28cd"), looks := true }, kinds := [], alts := [], laidByText := true, laidKinds := [.data, .data, .data, .data, .sentinel, .sentinel, .data, .pinned], laidTests := true, laidLooks := .later }
def TwinGoesOnUptoCardSaid : Prop := Claim7.holds Tryz.pinned (.plain (OpenSpec.upto twinGoesOnSpec)) twinGoesOnUptoCard

/-- THE SECOND FORM's CARD OF 'ciceronelaw48.TwinGone'. -/
def twinGoneUptoCard : Claim7 := { stood := { row := twinGoneUptoRow, standIns := [], harness := (true, "66fbcc148de14dc2dc984fb45e7179c2474b6e1b4c397c16e0bd53fd0d5d28cd"), looks := true }, kinds := [], alts := [], laidByText := true, laidKinds := [.data, .data, .data, .data, .sentinel, .sentinel, .data, .pinned], laidTests := true, laidLooks := .later }
def TwinGoneUptoCardSaid : Prop := Claim7.holds Tryz.pinned (.plain (OpenSpec.upto twinGoneSpec)) twinGoneUptoCard
end Rows
end Go.Proofs.YtcmmclliabhnjaaGreatDoor
