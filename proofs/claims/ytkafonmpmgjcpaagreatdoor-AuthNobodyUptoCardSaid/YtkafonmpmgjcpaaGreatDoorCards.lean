/-
  DERIVED. GIVEN WITH THE SEED: THE CARDS: each row of YtkafonmpmgjcpaaGreatDoorRows.lean that lists a variable, with what it lists TIED to the program's text (the seventh form; the later family's looks); each row that meets fmt, with fmt's text TOLD by the authors' own Lean function (tested against real Go, not proved from fmt's source: count such statements apart). THE CARD IS WHAT COUNTS. Prove the row's statement (the work); the ties are given (YtkafonmpmgjcpaaGreatDoorTie.lean); close each card by the builder's one call (the guide's Derived/Test/ToyasCard.lean, 'card_holds'). Laid BY PROGRAM, IN A SANDBOX (cutbox-door.mjs). By AI agents, Wed Nov 11 2026. No macro, syntax, notation, axiom, sorry.
-/
import Derived.Test.YtkafonmpmgjcpaaGreatDoorRows
import GoSem.ClaimSeven
namespace Go.Proofs.YtkafonmpmgjcpaaGreatDoor
namespace Rows

/-- THE TIED CARD OF 'vergerlaw20.AuthControls'. -/
def authControlsCard : Claim7 := { stood := { row := authControlsRow, standIns := [], harness := (true, "dbfba4981efd981e638ed64ef8afc256c17d7500783a4c47116ab65a97b757bf"), looks := true }, kinds := [], alts := [], laidByText := true, laidKinds := [.data, .data, .data, .data, .sentinel, .sentinel, .pinned], laidTests := true, laidLooks := .later }
def AuthControlsCardSaid : Prop := Claim7.holds Tryz.pinned (.plain (OpenSpec.ofChange authControlsSpec)) authControlsCard

/-- THE TIED CARD OF 'vergerlaw20.AuthProxies'. -/
def authProxiesCard : Claim7 := { stood := { row := authProxiesRow, standIns := [], harness := (true, "dbfba4981efd981e638ed64ef8afc256c17d7500783a4c47116ab65a97b757bf"), looks := true }, kinds := [], alts := [], laidByText := true, laidKinds := [.data, .data, .data, .data, .sentinel, .sentinel, .pinned], laidTests := true, laidLooks := .later }
def AuthProxiesCardSaid : Prop := Claim7.holds Tryz.pinned (.plain (OpenSpec.ofChange authProxiesSpec)) authProxiesCard

/-- THE TIED CARD OF 'vergerlaw20.AuthNobody'. -/
def authNobodyCard : Claim7 := { stood := { row := authNobodyRow, standIns := [], harness := (true, "dbfba4981efd981e638ed64ef8afc256c17d7500783a4c47116ab65a97b757bf"), looks := true }, kinds := [], alts := [], laidByText := true, laidKinds := [.data, .data, .data, .data, .sentinel, .sentinel, .pinned], laidTests := true, laidLooks := .later }
def AuthNobodyCardSaid : Prop := Claim7.holds Tryz.pinned (.plain (OpenSpec.ofChange authNobodySpec)) authNobodyCard

/-- THE SECOND FORM's CARD OF 'vergerlaw20.AuthControls'. -/
def authControlsUptoCard : Claim7 := { stood := { row := authControlsUptoRow, standIns := [], harness := (true, "dbfba4981efd981e638ed64ef8afc256c17d7500783a4c47116ab65a97b757bf"), looks := true }, kinds := [], alts := [], laidByText := true, laidKinds := [.data, .data, .data, .data, .sentinel, .sentinel, .pinned], laidTests := true, laidLooks := .later }
def AuthControlsUptoCardSaid : Prop := Claim7.holds Tryz.pinned (.plain (OpenSpec.upto authControlsSpec)) authControlsUptoCard

/-- THE SECOND FORM's CARD OF 'vergerlaw20.AuthProxies'. -/
def authProxiesUptoCard : Claim7 := { stood := { row := authProxiesUptoRow, standIns := [], harness := (true, "dbfba4981efd981e638ed64ef8afc256c17d7500783a4c47116ab65a97b757bf"), looks := true }, kinds := [], alts := [], laidByText := true, laidKinds := [.data, .data, .data, .data, .sentinel, .sentinel, .pinned], laidTests := true, laidLooks := .later }
def AuthProxiesUptoCardSaid : Prop := Claim7.holds Tryz.pinned (.plain (OpenSpec.upto authProxiesSpec)) authProxiesUptoCard

/-- THE SECOND FORM's CARD OF 'vergerlaw20.AuthNobody'. -/
def authNobodyUptoCard : Claim7 := { stood := { row := authNobodyUptoRow, standIns := [], harness := (true, "dbfba4981efd981e638ed64ef8afc256c17d7500783a4c47116ab65a97b757bf"), looks := true }, kinds := [], alts := [], laidByText := true, laidKinds := [.data, .data, .data, .data, .sentinel, .sentinel, .pinned], laidTests := true, laidLooks := .later }
def AuthNobodyUptoCardSaid : Prop := Claim7.holds Tryz.pinned (.plain (OpenSpec.upto authNobodySpec)) authNobodyUptoCard
end Rows
end Go.Proofs.YtkafonmpmgjcpaaGreatDoor
