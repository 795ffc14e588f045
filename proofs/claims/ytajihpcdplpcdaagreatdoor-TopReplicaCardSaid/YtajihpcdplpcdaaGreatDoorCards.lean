/-
  DERIVED. GIVEN WITH THE SEED: THE CARDS: each row of YtajihpcdplpcdaaGreatDoorRows.lean that lists a variable, with what it lists TIED to the program's text (the seventh form; the later family's looks); each row that meets fmt, with fmt's text TOLD by the authors' own Lean function (tested against real Go, not proved from fmt's source: count such statements apart). THE CARD IS WHAT COUNTS. Prove the row's statement (the work); the ties are given (YtajihpcdplpcdaaGreatDoorTie.lean); close each card by the builder's one call (the guide's Derived/Test/ToyasCard.lean, 'card_holds'). Laid BY PROGRAM, IN A SANDBOX (cutbox-door.mjs). By AI agents, Wed Nov 11 2026. No macro, syntax, notation, axiom, sorry.
-/
import Derived.Test.YtajihpcdplpcdaaGreatDoorRows
import GoSem.ClaimSeven
namespace Go.Proofs.YtajihpcdplpcdaaGreatDoor
namespace Rows

/-- THE TIED CARD OF 'ciceronetop.TopReplica'. -/
def topReplicaCard : Claim7 := { stood := { row := topReplicaRow, standIns := [], harness := (true, "72cf849a81d6e1f4694e5795f3fd86f13436ae7dedd2bd0d6f26a7af61579ea6"), looks := true }, kinds := [], alts := [], laidByText := true, laidKinds := [.data, .data, .data, .data, .sentinel, .sentinel, .data, .pinned], laidTests := true, laidLooks := .later }
def TopReplicaCardSaid : Prop := Claim7.holds Tryz.pinned (.plain (OpenSpec.ofChange topReplicaSpec)) topReplicaCard

/-- THE SECOND FORM's CARD OF 'ciceronetop.TopReplica'. -/
def topReplicaUptoCard : Claim7 := { stood := { row := topReplicaUptoRow, standIns := [], harness := (true, "72cf849a81d6e1f4694e5795f3fd86f13436ae7dedd2bd0d6f26a7af61579ea6"), looks := true }, kinds := [], alts := [], laidByText := true, laidKinds := [.data, .data, .data, .data, .sentinel, .sentinel, .data, .pinned], laidTests := true, laidLooks := .later }
def TopReplicaUptoCardSaid : Prop := Claim7.holds Tryz.pinned (.plain (OpenSpec.upto topReplicaSpec)) topReplicaUptoCard
end Rows
end Go.Proofs.YtajihpcdplpcdaaGreatDoor
