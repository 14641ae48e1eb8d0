/-
  DERIVED. GIVEN WITH THE SEED: THE CARDS: each row of YtioglicfndkgiaaGreatDoorRows.lean that lists a variable, with what it lists TIED to the program's text (the seventh form; the later family's looks); each row that meets fmt, with fmt's text TOLD by the authors' own Lean function (tested against real Go, not proved from fmt's source: count such statements apart). THE CARD IS WHAT COUNTS. Prove the row's statement (the work); the ties are given (YtioglicfndkgiaaGreatDoorTie.lean); close each card by the builder's one call (the guide's Derived/Test/ToyasCard.lean, 'card_holds'). Laid BY PROGRAM, IN A SANDBOX (cutbox-door.mjs). By AI agents, Wed Nov 11 2026. No macro, syntax, notation, axiom, sorry.
-/
import Derived.Test.YtioglicfndkgiaaGreatDoorRows
import GoSem.ClaimSeven
namespace Go.Proofs.YtioglicfndkgiaaGreatDoor
namespace Rows

/-- THE TIED CARD OF 'vergerlaw15.PartContexts'. -/
def partContextsCard : Claim7 := { stood := { row := partContextsRow, standIns := [], harness := (true, "11f9cf1d7060a9c965d160dce877cf6f0bee6c255ff783d8db42ed9029692daf"), looks := true }, kinds := [], alts := [], laidByText := true, laidKinds := [.data, .data, .data, .data, .sentinel, .sentinel, .pinned], laidTests := true, laidLooks := .later }
def PartContextsCardSaid : Prop := Claim7.holds Tryz.pinned (.plain (OpenSpec.ofChange partContextsSpec)) partContextsCard

/-- THE TIED CARD OF 'vergerlaw20.AuthPasswords'. -/
def authPasswordsCard : Claim7 := { stood := { row := authPasswordsRow, standIns := [], harness := (true, "11f9cf1d7060a9c965d160dce877cf6f0bee6c255ff783d8db42ed9029692daf"), looks := true }, kinds := [], alts := [], laidByText := true, laidKinds := [.data, .data, .data, .data, .sentinel, .sentinel, .pinned], laidTests := true, laidLooks := .later }
def AuthPasswordsCardSaid : Prop := Claim7.holds Tryz.pinned (.plain (OpenSpec.ofChange authPasswordsSpec)) authPasswordsCard

/-- THE TIED CARD OF 'vergerlaw16.RouteSplit'. -/
def routeSplitCard : Claim7 := { stood := { row := routeSplitRow, standIns := [], harness := (true, "11f9cf1d7060a9c965d160dce877cf6f0bee6c255ff783d8db42ed9029692daf"), looks := true }, kinds := [], alts := [], laidByText := true, laidKinds := [.data, .data, .data, .data, .sentinel, .sentinel, .pinned], laidTests := true, laidLooks := .later }
def RouteSplitCardSaid : Prop := Claim7.holds Tryz.pinned (.plain (OpenSpec.ofChange routeSplitSpec)) routeSplitCard

/-- THE SECOND FORM's CARD OF 'vergerlaw15.PartContexts'. -/
def partContextsUptoCard : Claim7 := { stood := { row := partContextsUptoRow, standIns := [], harness := (true, "11f9cf1d7060a9c965d160dce877cf6f0bee6c255ff783d8db42ed9029692daf"), looks := true }, kinds := [], alts := [], laidByText := true, laidKinds := [.data, .data, .data, .data, .sentinel, .sentinel, .pinned], laidTests := true, laidLooks := .later }
def PartContextsUptoCardSaid : Prop := Claim7.holds Tryz.pinned (.plain (OpenSpec.upto partContextsSpec)) partContextsUptoCard

/-- THE SECOND FORM's CARD OF 'vergerlaw20.AuthPasswords'. -/
def authPasswordsUptoCard : Claim7 := { stood := { row := authPasswordsUptoRow, standIns := [], harness := (true, "11f9cf1d7060a9c965d160dce877cf6f0bee6c255ff783d8db42ed9029692daf"), looks := true }, kinds := [], alts := [], laidByText := true, laidKinds := [.data, .data, .data, .data, .sentinel, .sentinel, .pinned], laidTests := true, laidLooks := .later }
def AuthPasswordsUptoCardSaid : Prop := Claim7.holds Tryz.pinned (.plain (OpenSpec.upto authPasswordsSpec)) authPasswordsUptoCard

/-- THE SECOND FORM's CARD OF 'vergerlaw16.RouteSplit'. -/
def routeSplitUptoCard : Claim7 := { stood := { row := routeSplitUptoRow, standIns := [], harness := (true, "11f9cf1d7060a9c965d160dce877cf6f0bee6c255ff783d8db42ed9029692daf"), looks := true }, kinds := [], alts := [], laidByText := true, laidKinds := [.data, .data, .data, .data, .sentinel, .sentinel, .pinned], laidTests := true, laidLooks := .later }
def RouteSplitUptoCardSaid : Prop := Claim7.holds Tryz.pinned (.plain (OpenSpec.upto routeSplitSpec)) routeSplitUptoCard
end Rows
end Go.Proofs.YtioglicfndkgiaaGreatDoor
