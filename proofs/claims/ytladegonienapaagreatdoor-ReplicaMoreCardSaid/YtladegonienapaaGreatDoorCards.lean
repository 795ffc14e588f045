/-
  DERIVED. GIVEN WITH THE SEED: THE CARDS: each row of YtladegonienapaaGreatDoorRows.lean that lists a variable, with what it lists TIED to the program's text (the seventh form; the later family's looks); each row that meets fmt, with fmt's text TOLD by the authors' own Lean function (tested against real Go, not proved from fmt's source: count such statements apart). THE CARD IS WHAT COUNTS. Prove the row's statement (the work); the ties are given (YtladegonienapaaGreatDoorTie.lean); close each card by the builder's one call (the guide's Derived/Test/ToyasCard.lean, 'card_holds'). Laid BY PROGRAM, IN A SANDBOX (cutbox-door.mjs). By AI agents, Wed Nov 11 2026. No macro, syntax, notation, axiom, sorry.
-/
import Derived.Test.YtladegonienapaaGreatDoorRows
import GoSem.ClaimSeven
namespace Go.Proofs.YtladegonienapaaGreatDoor
namespace Rows

/-- THE TIED CARD OF 'ciceronelaw33.ReplicaForgets'. -/
def replicaForgetsCard : Claim7 := { stood := { row := replicaForgetsRow, standIns := [], harness := (true, "0b1a33122323da30a5ab6ba7fae05a192758e046d84cc9cf084364bf4328852e"), looks := true }, kinds := [], alts := [], laidByText := true, laidKinds := [.data, .data, .data, .data, .pinned], laidTests := true, laidLooks := .later }
def ReplicaForgetsCardSaid : Prop := Claim7.holds Tryz.pinned (.plain (OpenSpec.ofChange replicaForgetsSpec)) replicaForgetsCard

/-- THE TIED CARD OF 'ciceronelaw33.ReplicaMore'. -/
def replicaMoreCard : Claim7 := { stood := { row := replicaMoreRow, standIns := [], harness := (true, "0b1a33122323da30a5ab6ba7fae05a192758e046d84cc9cf084364bf4328852e"), looks := true }, kinds := [], alts := [], laidByText := true, laidKinds := [.data, .data, .data, .data, .sentinel, .sentinel, .pinned], laidTests := true, laidLooks := .later }
def ReplicaMoreCardSaid : Prop := Claim7.holds Tryz.pinned (.plain (OpenSpec.ofChange replicaMoreSpec)) replicaMoreCard

/-- THE TIED CARD OF 'ciceronelaw33.ReplicaOwn'. -/
def replicaOwnCard : Claim7 := { stood := { row := replicaOwnRow, standIns := [], harness := (true, "0b1a33122323da30a5ab6ba7fae05a192758e046d84cc9cf084364bf4328852e"), looks := true }, kinds := [], alts := [], laidByText := true, laidKinds := [.data, .data, .data, .data, .sentinel, .sentinel, .pinned], laidTests := true, laidLooks := .later }
def ReplicaOwnCardSaid : Prop := Claim7.holds Tryz.pinned (.plain (OpenSpec.ofChange replicaOwnSpec)) replicaOwnCard

/-- THE TIED CARD OF 'ciceronelaw33.ReplicaAsOf'. -/
def replicaAsOfCard : Claim7 := { stood := { row := replicaAsOfRow, standIns := [], harness := (true, "0b1a33122323da30a5ab6ba7fae05a192758e046d84cc9cf084364bf4328852e"), looks := true }, kinds := [], alts := [], laidByText := true, laidKinds := [.data, .data, .data, .data, .sentinel, .sentinel, .pinned], laidTests := true, laidLooks := .later }
def ReplicaAsOfCardSaid : Prop := Claim7.holds Tryz.pinned (.plain (OpenSpec.ofChange replicaAsOfSpec)) replicaAsOfCard

/-- THE TIED CARD OF 'ciceronelaw33.ReplicaPulls'. -/
def replicaPullsCard : Claim7 := { stood := { row := replicaPullsRow, standIns := [], harness := (true, "0b1a33122323da30a5ab6ba7fae05a192758e046d84cc9cf084364bf4328852e"), looks := true }, kinds := [], alts := [], laidByText := true, laidKinds := [.data, .data, .data, .data, .sentinel, .sentinel, .pinned], laidTests := true, laidLooks := .later }
def ReplicaPullsCardSaid : Prop := Claim7.holds Tryz.pinned (.plain (OpenSpec.ofChange replicaPullsSpec)) replicaPullsCard

/-- THE SECOND FORM's CARD OF 'ciceronelaw33.ReplicaForgets'. -/
def replicaForgetsUptoCard : Claim7 := { stood := { row := replicaForgetsUptoRow, standIns := [], harness := (true, "0b1a33122323da30a5ab6ba7fae05a192758e046d84cc9cf084364bf4328852e"), looks := true }, kinds := [], alts := [], laidByText := true, laidKinds := [.data, .data, .data, .data, .pinned], laidTests := true, laidLooks := .later }
def ReplicaForgetsUptoCardSaid : Prop := Claim7.holds Tryz.pinned (.plain (OpenSpec.upto replicaForgetsSpec)) replicaForgetsUptoCard

/-- THE SECOND FORM's CARD OF 'ciceronelaw33.ReplicaMore'. -/
def replicaMoreUptoCard : Claim7 := { stood := { row := replicaMoreUptoRow, standIns := [], harness := (true, "0b1a33122323da30a5ab6ba7fae05a192758e046d84cc9cf084364bf4328852e"), looks := true }, kinds := [], alts := [], laidByText := true, laidKinds := [.data, .data, .data, .data, .sentinel, .sentinel, .pinned], laidTests := true, laidLooks := .later }
def ReplicaMoreUptoCardSaid : Prop := Claim7.holds Tryz.pinned (.plain (OpenSpec.upto replicaMoreSpec)) replicaMoreUptoCard

/-- THE SECOND FORM's CARD OF 'ciceronelaw33.ReplicaOwn'. -/
def replicaOwnUptoCard : Claim7 := { stood := { row := replicaOwnUptoRow, standIns := [], harness := (true, "0b1a33122323da30a5ab6ba7fae05a192758e046d84cc9cf084364bf4328852e"), looks := true }, kinds := [], alts := [], laidByText := true, laidKinds := [.data, .data, .data, .data, .sentinel, .sentinel, .pinned], laidTests := true, laidLooks := .later }
def ReplicaOwnUptoCardSaid : Prop := Claim7.holds Tryz.pinned (.plain (OpenSpec.upto replicaOwnSpec)) replicaOwnUptoCard

/-- THE SECOND FORM's CARD OF 'ciceronelaw33.ReplicaAsOf'. -/
def replicaAsOfUptoCard : Claim7 := { stood := { row := replicaAsOfUptoRow, standIns := [], harness := (true, "0b1a33122323da30a5ab6ba7fae05a192758e046d84cc9cf084364bf4328852e"), looks := true }, kinds := [], alts := [], laidByText := true, laidKinds := [.data, .data, .data, .data, .sentinel, .sentinel, .pinned], laidTests := true, laidLooks := .later }
def ReplicaAsOfUptoCardSaid : Prop := Claim7.holds Tryz.pinned (.plain (OpenSpec.upto replicaAsOfSpec)) replicaAsOfUptoCard

/-- THE SECOND FORM's CARD OF 'ciceronelaw33.ReplicaPulls'. -/
def replicaPullsUptoCard : Claim7 := { stood := { row := replicaPullsUptoRow, standIns := [], harness := (true, "0b1a33122323da30a5ab6ba7fae05a192758e046d84cc9cf084364bf4328852e"), looks := true }, kinds := [], alts := [], laidByText := true, laidKinds := [.data, .data, .data, .data, .sentinel, .sentinel, .pinned], laidTests := true, laidLooks := .later }
def ReplicaPullsUptoCardSaid : Prop := Claim7.holds Tryz.pinned (.plain (OpenSpec.upto replicaPullsSpec)) replicaPullsUptoCard
end Rows
end Go.Proofs.YtladegonienapaaGreatDoor
