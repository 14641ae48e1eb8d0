/-
  DERIVED. GIVEN WITH THE SEED: THE CARDS: each row of YtlckfnchabfcaaaGreatDoorRows.lean that lists a variable, with what it lists TIED to the program's text (the seventh form; the later family's looks); each row that meets fmt, with fmt's text TOLD by the authors' own Lean function (tested against real Go, not proved from fmt's source: count such statements apart). THE CARD IS WHAT COUNTS. Prove the row's statement (the work); the ties are given (YtlckfnchabfcaaaGreatDoorTie.lean); close each card by the builder's one call (the guide's Derived/Test/ToyasCard.lean, 'card_holds'). Laid BY PROGRAM, IN A SANDBOX (cutbox-door.mjs). By AI agents, Wed Nov 11 2026. No macro, syntax, notation, axiom, sorry.
-/
import Derived.Test.YtlckfnchabfcaaaGreatDoorRows
import GoSem.ClaimSeven
namespace Go.Proofs.YtlckfnchabfcaaaGreatDoor
namespace Rows

/-- THE TIED CARD OF 'vergerlaw16.RouteSteps'. -/
def routeStepsCard : Claim7 := { stood := { row := routeStepsRow, standIns := [], harness := (true, "66904edc87bca25026588ec3e2e10d91883598c19865e0ccac68c33dd8eb0d31"), looks := true }, kinds := [], alts := [], laidByText := true, laidKinds := [.data, .data, .data, .data, .sentinel, .sentinel, .pinned], laidTests := true, laidLooks := .later }
def RouteStepsCardSaid : Prop := Claim7.holds Tryz.pinned (.plain (OpenSpec.ofChange routeStepsSpec)) routeStepsCard

/-- THE TIED CARD OF 'vergerlaw10.TreeNil'. -/
def treeNilCard : Claim7 := { stood := { row := treeNilRow, standIns := [], harness := (true, "66904edc87bca25026588ec3e2e10d91883598c19865e0ccac68c33dd8eb0d31"), looks := true }, kinds := [], alts := [], laidByText := true, laidKinds := [.data, .data, .data, .data, .sentinel, .sentinel, .pinned], laidTests := true, laidLooks := .later }
def TreeNilCardSaid : Prop := Claim7.holds Tryz.pinned (.plain (OpenSpec.ofChange treeNilSpec)) treeNilCard

/-- THE SECOND FORM's CARD OF 'vergerlaw16.RouteSteps'. -/
def routeStepsUptoCard : Claim7 := { stood := { row := routeStepsUptoRow, standIns := [], harness := (true, "66904edc87bca25026588ec3e2e10d91883598c19865e0ccac68c33dd8eb0d31"), looks := true }, kinds := [], alts := [], laidByText := true, laidKinds := [.data, .data, .data, .data, .sentinel, .sentinel, .pinned], laidTests := true, laidLooks := .later }
def RouteStepsUptoCardSaid : Prop := Claim7.holds Tryz.pinned (.plain (OpenSpec.upto routeStepsSpec)) routeStepsUptoCard

/-- THE SECOND FORM's CARD OF 'vergerlaw10.TreeNil'. -/
def treeNilUptoCard : Claim7 := { stood := { row := treeNilUptoRow, standIns := [], harness := (true, "66904edc87bca25026588ec3e2e10d91883598c19865e0ccac68c33dd8eb0d31"), looks := true }, kinds := [], alts := [], laidByText := true, laidKinds := [.data, .data, .data, .data, .sentinel, .sentinel, .pinned], laidTests := true, laidLooks := .later }
def TreeNilUptoCardSaid : Prop := Claim7.holds Tryz.pinned (.plain (OpenSpec.upto treeNilSpec)) treeNilUptoCard
end Rows
end Go.Proofs.YtlckfnchabfcaaaGreatDoor
