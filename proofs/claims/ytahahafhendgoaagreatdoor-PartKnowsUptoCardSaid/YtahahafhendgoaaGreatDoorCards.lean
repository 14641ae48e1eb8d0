/-
  DERIVED. GIVEN WITH THE SEED: THE CARDS: each row of YtahahafhendgoaaGreatDoorRows.lean that lists a variable, with what it lists TIED to the program's text (the seventh form; the later family's looks); each row that meets fmt, with fmt's text TOLD by the authors' own Lean function (tested against real Go, not proved from fmt's source: count such statements apart). THE CARD IS WHAT COUNTS. Prove the row's statement (the work); the ties are given (YtahahafhendgoaaGreatDoorTie.lean); close each card by the builder's one call (the guide's Derived/Test/ToyasCard.lean, 'card_holds'). Laid BY PROGRAM, IN A SANDBOX (cutbox-door.mjs). By AI agents, Wed Nov 11 2026. No macro, syntax, notation, axiom, sorry.
-/
import Derived.Test.YtahahafhendgoaaGreatDoorRows
import GoSem.ClaimSeven
namespace Go.Proofs.YtahahafhendgoaaGreatDoor
namespace Rows

/-- THE TIED CARD OF 'vergerlaw15.PartKnows'. -/
def partKnowsCard : Claim7 := { stood := { row := partKnowsRow, standIns := [], harness := (true, "8d0be3c83073fc5e601eb02421aae545a57d6d521004f25a09c1b3fbec065cbf"), looks := true }, kinds := [], alts := [], laidByText := true, laidKinds := [.data, .data, .data, .data, .sentinel, .sentinel, .pinned], laidTests := true, laidLooks := .later }
def PartKnowsCardSaid : Prop := Claim7.holds Tryz.pinned (.plain (OpenSpec.ofChange partKnowsSpec)) partKnowsCard

/-- THE TIED CARD OF 'vergerlaw15.PartContexts'. -/
def partContextsCard : Claim7 := { stood := { row := partContextsRow, standIns := [], harness := (true, "8d0be3c83073fc5e601eb02421aae545a57d6d521004f25a09c1b3fbec065cbf"), looks := true }, kinds := [], alts := [], laidByText := true, laidKinds := [.data, .data, .data, .data, .sentinel, .sentinel, .pinned], laidTests := true, laidLooks := .later }
def PartContextsCardSaid : Prop := Claim7.holds Tryz.pinned (.plain (OpenSpec.ofChange partContextsSpec)) partContextsCard

/-- THE SECOND FORM's CARD OF 'vergerlaw15.PartKnows'. -/
def partKnowsUptoCard : Claim7 := { stood := { row := partKnowsUptoRow, standIns := [], harness := (true, "8d0be3c83073fc5e601eb02421aae545a57d6d521004f25a09c1b3fbec065cbf"), looks := true }, kinds := [], alts := [], laidByText := true, laidKinds := [.data, .data, .data, .data, .sentinel, .sentinel, .pinned], laidTests := true, laidLooks := .later }
def PartKnowsUptoCardSaid : Prop := Claim7.holds Tryz.pinned (.plain (OpenSpec.upto partKnowsSpec)) partKnowsUptoCard

/-- THE SECOND FORM's CARD OF 'vergerlaw15.PartContexts'. -/
def partContextsUptoCard : Claim7 := { stood := { row := partContextsUptoRow, standIns := [], harness := (true, "8d0be3c83073fc5e601eb02421aae545a57d6d521004f25a09c1b3fbec065cbf"), looks := true }, kinds := [], alts := [], laidByText := true, laidKinds := [.data, .data, .data, .data, .sentinel, .sentinel, .pinned], laidTests := true, laidLooks := .later }
def PartContextsUptoCardSaid : Prop := Claim7.holds Tryz.pinned (.plain (OpenSpec.upto partContextsSpec)) partContextsUptoCard
end Rows
end Go.Proofs.YtahahafhendgoaaGreatDoor
