/-
  DERIVED. GIVEN WITH THE SEED: THE CARDS: each row of YtkjbokhnpphimaaGreatDoorRows.lean that lists a variable, with what it lists TIED to the program's text (the seventh form; the later family's looks); each row that meets fmt, with fmt's text TOLD by the authors' own Lean function (tested against real Go, not proved from fmt's source: count such statements apart). THE CARD IS WHAT COUNTS. Prove the row's statement (the work); the ties are given (YtkjbokhnpphimaaGreatDoorTie.lean); close each card by the builder's one call (the guide's Derived/Test/ToyasCard.lean, 'card_holds'). Laid BY PROGRAM, IN A SANDBOX (cutbox-door.mjs). By AI agents, Wed Nov 11 2026. No macro, syntax, notation, axiom, sorry.
-/
import Derived.Test.YtkjbokhnpphimaaGreatDoorRows
import GoSem.ClaimSeven
namespace Go.Proofs.YtkjbokhnpphimaaGreatDoor
namespace Rows

/-- THE TIED CARD OF 'vergerlaw15.PartSplits'. -/
def partSplitsCard : Claim7 := { stood := { row := partSplitsRow, standIns := [], harness := (true, "30651ca6919000168a721c9902852a8e5a07976631ac43256bf56ccb2566f198"), looks := true }, kinds := [], alts := [], laidByText := true, laidKinds := [.data, .data, .data, .data, .sentinel, .sentinel, .pinned], laidTests := true, laidLooks := .later }
def PartSplitsCardSaid : Prop := Claim7.holds Tryz.pinned (.plain (OpenSpec.ofChange partSplitsSpec)) partSplitsCard

/-- THE TIED CARD OF 'vergerlaw15.PartBack'. -/
def partBackCard : Claim7 := { stood := { row := partBackRow, standIns := [], harness := (true, "30651ca6919000168a721c9902852a8e5a07976631ac43256bf56ccb2566f198"), looks := true }, kinds := [], alts := [], laidByText := true, laidKinds := [.data, .data, .data, .data, .sentinel, .sentinel, .pinned], laidTests := true, laidLooks := .later }
def PartBackCardSaid : Prop := Claim7.holds Tryz.pinned (.plain (OpenSpec.ofChange partBackSpec)) partBackCard

/-- THE TIED CARD OF 'vergerlaw15.PartJoins'. -/
def partJoinsCard : Claim7 := { stood := { row := partJoinsRow, standIns := [], harness := (true, "30651ca6919000168a721c9902852a8e5a07976631ac43256bf56ccb2566f198"), looks := true }, kinds := [], alts := [], laidByText := true, laidKinds := [.data, .data, .data, .data, .sentinel, .sentinel, .pinned], laidTests := true, laidLooks := .later }
def PartJoinsCardSaid : Prop := Claim7.holds Tryz.pinned (.plain (OpenSpec.ofChange partJoinsSpec)) partJoinsCard

/-- THE SECOND FORM's CARD OF 'vergerlaw15.PartSplits'. -/
def partSplitsUptoCard : Claim7 := { stood := { row := partSplitsUptoRow, standIns := [], harness := (true, "30651ca6919000168a721c9902852a8e5a07976631ac43256bf56ccb2566f198"), looks := true }, kinds := [], alts := [], laidByText := true, laidKinds := [.data, .data, .data, .data, .sentinel, .sentinel, .pinned], laidTests := true, laidLooks := .later }
def PartSplitsUptoCardSaid : Prop := Claim7.holds Tryz.pinned (.plain (OpenSpec.upto partSplitsSpec)) partSplitsUptoCard

/-- THE SECOND FORM's CARD OF 'vergerlaw15.PartBack'. -/
def partBackUptoCard : Claim7 := { stood := { row := partBackUptoRow, standIns := [], harness := (true, "30651ca6919000168a721c9902852a8e5a07976631ac43256bf56ccb2566f198"), looks := true }, kinds := [], alts := [], laidByText := true, laidKinds := [.data, .data, .data, .data, .sentinel, .sentinel, .pinned], laidTests := true, laidLooks := .later }
def PartBackUptoCardSaid : Prop := Claim7.holds Tryz.pinned (.plain (OpenSpec.upto partBackSpec)) partBackUptoCard

/-- THE SECOND FORM's CARD OF 'vergerlaw15.PartJoins'. -/
def partJoinsUptoCard : Claim7 := { stood := { row := partJoinsUptoRow, standIns := [], harness := (true, "30651ca6919000168a721c9902852a8e5a07976631ac43256bf56ccb2566f198"), looks := true }, kinds := [], alts := [], laidByText := true, laidKinds := [.data, .data, .data, .data, .sentinel, .sentinel, .pinned], laidTests := true, laidLooks := .later }
def PartJoinsUptoCardSaid : Prop := Claim7.holds Tryz.pinned (.plain (OpenSpec.upto partJoinsSpec)) partJoinsUptoCard
end Rows
end Go.Proofs.YtkjbokhnpphimaaGreatDoor
