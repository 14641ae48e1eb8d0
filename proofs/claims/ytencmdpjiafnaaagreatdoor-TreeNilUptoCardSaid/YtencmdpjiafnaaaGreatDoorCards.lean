/-
  DERIVED. GIVEN WITH THE SEED: THE CARDS: each row of YtencmdpjiafnaaaGreatDoorRows.lean that lists a variable, with what it lists TIED to the program's text (the seventh form; the later family's looks); each row that meets fmt, with fmt's text TOLD by the authors' own Lean function (tested against real Go, not proved from fmt's source: count such statements apart). THE CARD IS WHAT COUNTS. Prove the row's statement (the work); the ties are given (YtencmdpjiafnaaaGreatDoorTie.lean); close each card by the builder's one call (the guide's Derived/Test/ToyasCard.lean, 'card_holds'). Laid BY PROGRAM, IN A SANDBOX (cutbox-door.mjs). By AI agents, Wed Nov 11 2026. No macro, syntax, notation, axiom, sorry.
-/
import Derived.Test.YtencmdpjiafnaaaGreatDoorRows
import GoSem.ClaimSeven
namespace Go.Proofs.YtencmdpjiafnaaaGreatDoor
namespace Rows

/-- THE TIED CARD OF 'vergerlaw10.TreeOf'. -/
def treeOfCard : Claim7 := { stood := { row := treeOfRow, standIns := [], harness := (true, "806d4b5538003d7aa614337af0d924963d748c7c27808b9b7ae632634ee416b8"), looks := true }, kinds := [], alts := [], laidByText := true, laidKinds := [.data, .data, .data, .data, .sentinel, .sentinel, .pinned], laidTests := true, laidLooks := .later }
def TreeOfCardSaid : Prop := Claim7.holds Tryz.pinned (.plain (OpenSpec.ofChange treeOfSpec)) treeOfCard

/-- THE TIED CARD OF 'vergerlaw10.TreeLooks'. -/
def treeLooksCard : Claim7 := { stood := { row := treeLooksRow, standIns := [], harness := (true, "806d4b5538003d7aa614337af0d924963d748c7c27808b9b7ae632634ee416b8"), looks := true }, kinds := [], alts := [], laidByText := true, laidKinds := [.data, .data, .data, .data, .sentinel, .sentinel, .pinned], laidTests := true, laidLooks := .later }
def TreeLooksCardSaid : Prop := Claim7.holds Tryz.pinned (.plain (OpenSpec.ofChange treeLooksSpec)) treeLooksCard

/-- THE TIED CARD OF 'vergerlaw10.TreeNil'. -/
def treeNilCard : Claim7 := { stood := { row := treeNilRow, standIns := [], harness := (true, "806d4b5538003d7aa614337af0d924963d748c7c27808b9b7ae632634ee416b8"), looks := true }, kinds := [], alts := [], laidByText := true, laidKinds := [.data, .data, .data, .data, .sentinel, .sentinel, .pinned], laidTests := true, laidLooks := .later }
def TreeNilCardSaid : Prop := Claim7.holds Tryz.pinned (.plain (OpenSpec.ofChange treeNilSpec)) treeNilCard

/-- THE SECOND FORM's CARD OF 'vergerlaw10.TreeOf'. -/
def treeOfUptoCard : Claim7 := { stood := { row := treeOfUptoRow, standIns := [], harness := (true, "806d4b5538003d7aa614337af0d924963d748c7c27808b9b7ae632634ee416b8"), looks := true }, kinds := [], alts := [], laidByText := true, laidKinds := [.data, .data, .data, .data, .sentinel, .sentinel, .pinned], laidTests := true, laidLooks := .later }
def TreeOfUptoCardSaid : Prop := Claim7.holds Tryz.pinned (.plain (OpenSpec.upto treeOfSpec)) treeOfUptoCard

/-- THE SECOND FORM's CARD OF 'vergerlaw10.TreeLooks'. -/
def treeLooksUptoCard : Claim7 := { stood := { row := treeLooksUptoRow, standIns := [], harness := (true, "806d4b5538003d7aa614337af0d924963d748c7c27808b9b7ae632634ee416b8"), looks := true }, kinds := [], alts := [], laidByText := true, laidKinds := [.data, .data, .data, .data, .sentinel, .sentinel, .pinned], laidTests := true, laidLooks := .later }
def TreeLooksUptoCardSaid : Prop := Claim7.holds Tryz.pinned (.plain (OpenSpec.upto treeLooksSpec)) treeLooksUptoCard

/-- THE SECOND FORM's CARD OF 'vergerlaw10.TreeNil'. -/
def treeNilUptoCard : Claim7 := { stood := { row := treeNilUptoRow, standIns := [], harness := (true, "806d4b5538003d7aa614337af0d924963d748c7c27808b9b7ae632634ee416b8"), looks := true }, kinds := [], alts := [], laidByText := true, laidKinds := [.data, .data, .data, .data, .sentinel, .sentinel, .pinned], laidTests := true, laidLooks := .later }
def TreeNilUptoCardSaid : Prop := Claim7.holds Tryz.pinned (.plain (OpenSpec.upto treeNilSpec)) treeNilUptoCard
end Rows
end Go.Proofs.YtencmdpjiafnaaaGreatDoor
