/-
  DERIVED. GIVEN WITH THE SEED: THE CARDS: each row of YtlbneoilhapkmaaGreatDoorRows.lean that lists a variable, with what it lists TIED to the program's text (the seventh form; the later family's looks); each row that meets fmt, with fmt's text TOLD by the authors' own Lean function (tested against real Go, not proved from fmt's source: count such statements apart). THE CARD IS WHAT COUNTS. Prove the row's statement (the work); the ties are given (YtlbneoilhapkmaaGreatDoorTie.lean); close each card by the builder's one call (the guide's Derived/Test/ToyasCard.lean, 'card_holds'). Laid BY PROGRAM, IN A SANDBOX (cutbox-door.mjs). By AI agents, Wed Nov 11 2026. No macro, syntax, notation, axiom, sorry.
-/
import Derived.Test.YtlbneoilhapkmaaGreatDoorRows
import GoSem.ClaimSeven
namespace Go.Proofs.YtlbneoilhapkmaaGreatDoor
namespace Rows

/-- THE TIED CARD OF 'vergerlaw10.TreeOf'. -/
def treeOfCard : Claim7 := { stood := { row := treeOfRow, standIns := [], harness := (true, "b810f0003c7ca9e732f1b9a8154707b1477004f0e2e7b6ca670713d6f9cf8e4d"), looks := true }, kinds := [], alts := [], laidByText := true, laidKinds := [.data, .data, .data, .data, .sentinel, .sentinel, .pinned], laidTests := true, laidLooks := .later }
def TreeOfCardSaid : Prop := Claim7.holds Tryz.pinned (.plain (OpenSpec.ofChange treeOfSpec)) treeOfCard

/-- THE TIED CARD OF 'vergerlaw15.PartKnows'. -/
def partKnowsCard : Claim7 := { stood := { row := partKnowsRow, standIns := [], harness := (true, "b810f0003c7ca9e732f1b9a8154707b1477004f0e2e7b6ca670713d6f9cf8e4d"), looks := true }, kinds := [], alts := [], laidByText := true, laidKinds := [.data, .data, .data, .data, .sentinel, .sentinel, .pinned], laidTests := true, laidLooks := .later }
def PartKnowsCardSaid : Prop := Claim7.holds Tryz.pinned (.plain (OpenSpec.ofChange partKnowsSpec)) partKnowsCard

/-- THE TIED CARD OF 'vergerlaw15.PartContexts'. -/
def partContextsCard : Claim7 := { stood := { row := partContextsRow, standIns := [], harness := (true, "b810f0003c7ca9e732f1b9a8154707b1477004f0e2e7b6ca670713d6f9cf8e4d"), looks := true }, kinds := [], alts := [], laidByText := true, laidKinds := [.data, .data, .data, .data, .sentinel, .sentinel, .pinned], laidTests := true, laidLooks := .later }
def PartContextsCardSaid : Prop := Claim7.holds Tryz.pinned (.plain (OpenSpec.ofChange partContextsSpec)) partContextsCard

/-- THE TIED CARD OF 'vergerlaw10.TreeLooks'. -/
def treeLooksCard : Claim7 := { stood := { row := treeLooksRow, standIns := [], harness := (true, "b810f0003c7ca9e732f1b9a8154707b1477004f0e2e7b6ca670713d6f9cf8e4d"), looks := true }, kinds := [], alts := [], laidByText := true, laidKinds := [.data, .data, .data, .data, .sentinel, .sentinel, .pinned], laidTests := true, laidLooks := .later }
def TreeLooksCardSaid : Prop := Claim7.holds Tryz.pinned (.plain (OpenSpec.ofChange treeLooksSpec)) treeLooksCard

/-- THE TIED CARD OF 'vergerlaw15.PartSplits'. -/
def partSplitsCard : Claim7 := { stood := { row := partSplitsRow, standIns := [], harness := (true, "b810f0003c7ca9e732f1b9a8154707b1477004f0e2e7b6ca670713d6f9cf8e4d"), looks := true }, kinds := [], alts := [], laidByText := true, laidKinds := [.data, .data, .data, .data, .sentinel, .sentinel, .pinned], laidTests := true, laidLooks := .later }
def PartSplitsCardSaid : Prop := Claim7.holds Tryz.pinned (.plain (OpenSpec.ofChange partSplitsSpec)) partSplitsCard

/-- THE TIED CARD OF 'vergerlaw20.AuthPasswords'. -/
def authPasswordsCard : Claim7 := { stood := { row := authPasswordsRow, standIns := [], harness := (true, "b810f0003c7ca9e732f1b9a8154707b1477004f0e2e7b6ca670713d6f9cf8e4d"), looks := true }, kinds := [], alts := [], laidByText := true, laidKinds := [.data, .data, .data, .data, .sentinel, .sentinel, .pinned], laidTests := true, laidLooks := .later }
def AuthPasswordsCardSaid : Prop := Claim7.holds Tryz.pinned (.plain (OpenSpec.ofChange authPasswordsSpec)) authPasswordsCard

/-- THE TIED CARD OF 'vergerlaw15.PartBack'. -/
def partBackCard : Claim7 := { stood := { row := partBackRow, standIns := [], harness := (true, "b810f0003c7ca9e732f1b9a8154707b1477004f0e2e7b6ca670713d6f9cf8e4d"), looks := true }, kinds := [], alts := [], laidByText := true, laidKinds := [.data, .data, .data, .data, .sentinel, .sentinel, .pinned], laidTests := true, laidLooks := .later }
def PartBackCardSaid : Prop := Claim7.holds Tryz.pinned (.plain (OpenSpec.ofChange partBackSpec)) partBackCard

/-- THE TIED CARD OF 'vergerlaw15.PartJoins'. -/
def partJoinsCard : Claim7 := { stood := { row := partJoinsRow, standIns := [], harness := (true, "b810f0003c7ca9e732f1b9a8154707b1477004f0e2e7b6ca670713d6f9cf8e4d"), looks := true }, kinds := [], alts := [], laidByText := true, laidKinds := [.data, .data, .data, .data, .sentinel, .sentinel, .pinned], laidTests := true, laidLooks := .later }
def PartJoinsCardSaid : Prop := Claim7.holds Tryz.pinned (.plain (OpenSpec.ofChange partJoinsSpec)) partJoinsCard

/-- THE TIED CARD OF 'vergerlaw16.RouteSplit'. -/
def routeSplitCard : Claim7 := { stood := { row := routeSplitRow, standIns := [], harness := (true, "b810f0003c7ca9e732f1b9a8154707b1477004f0e2e7b6ca670713d6f9cf8e4d"), looks := true }, kinds := [], alts := [], laidByText := true, laidKinds := [.data, .data, .data, .data, .sentinel, .sentinel, .pinned], laidTests := true, laidLooks := .later }
def RouteSplitCardSaid : Prop := Claim7.holds Tryz.pinned (.plain (OpenSpec.ofChange routeSplitSpec)) routeSplitCard

/-- THE TIED CARD OF 'vergerlaw10.TreeBack'. -/
def treeBackCard : Claim7 := { stood := { row := treeBackRow, standIns := [], harness := (true, "b810f0003c7ca9e732f1b9a8154707b1477004f0e2e7b6ca670713d6f9cf8e4d"), looks := true }, kinds := [], alts := [], laidByText := true, laidKinds := [.data, .data, .data, .data, .sentinel, .sentinel, .pinned], laidTests := true, laidLooks := .later }
def TreeBackCardSaid : Prop := Claim7.holds Tryz.pinned (.plain (OpenSpec.ofChange treeBackSpec)) treeBackCard

/-- THE TIED CARD OF 'vergerlaw10.TreeCopies'. -/
def treeCopiesCard : Claim7 := { stood := { row := treeCopiesRow, standIns := [], harness := (true, "b810f0003c7ca9e732f1b9a8154707b1477004f0e2e7b6ca670713d6f9cf8e4d"), looks := true }, kinds := [], alts := [], laidByText := true, laidKinds := [.data, .data, .data, .data, .sentinel, .sentinel, .pinned], laidTests := true, laidLooks := .later }
def TreeCopiesCardSaid : Prop := Claim7.holds Tryz.pinned (.plain (OpenSpec.ofChange treeCopiesSpec)) treeCopiesCard

/-- THE SECOND FORM's CARD OF 'vergerlaw10.TreeOf'. -/
def treeOfUptoCard : Claim7 := { stood := { row := treeOfUptoRow, standIns := [], harness := (true, "b810f0003c7ca9e732f1b9a8154707b1477004f0e2e7b6ca670713d6f9cf8e4d"), looks := true }, kinds := [], alts := [], laidByText := true, laidKinds := [.data, .data, .data, .data, .sentinel, .sentinel, .pinned], laidTests := true, laidLooks := .later }
def TreeOfUptoCardSaid : Prop := Claim7.holds Tryz.pinned (.plain (OpenSpec.upto treeOfSpec)) treeOfUptoCard

/-- THE SECOND FORM's CARD OF 'vergerlaw15.PartKnows'. -/
def partKnowsUptoCard : Claim7 := { stood := { row := partKnowsUptoRow, standIns := [], harness := (true, "b810f0003c7ca9e732f1b9a8154707b1477004f0e2e7b6ca670713d6f9cf8e4d"), looks := true }, kinds := [], alts := [], laidByText := true, laidKinds := [.data, .data, .data, .data, .sentinel, .sentinel, .pinned], laidTests := true, laidLooks := .later }
def PartKnowsUptoCardSaid : Prop := Claim7.holds Tryz.pinned (.plain (OpenSpec.upto partKnowsSpec)) partKnowsUptoCard

/-- THE SECOND FORM's CARD OF 'vergerlaw15.PartContexts'. -/
def partContextsUptoCard : Claim7 := { stood := { row := partContextsUptoRow, standIns := [], harness := (true, "b810f0003c7ca9e732f1b9a8154707b1477004f0e2e7b6ca670713d6f9cf8e4d"), looks := true }, kinds := [], alts := [], laidByText := true, laidKinds := [.data, .data, .data, .data, .sentinel, .sentinel, .pinned], laidTests := true, laidLooks := .later }
def PartContextsUptoCardSaid : Prop := Claim7.holds Tryz.pinned (.plain (OpenSpec.upto partContextsSpec)) partContextsUptoCard

/-- THE SECOND FORM's CARD OF 'vergerlaw10.TreeLooks'. -/
def treeLooksUptoCard : Claim7 := { stood := { row := treeLooksUptoRow, standIns := [], harness := (true, "b810f0003c7ca9e732f1b9a8154707b1477004f0e2e7b6ca670713d6f9cf8e4d"), looks := true }, kinds := [], alts := [], laidByText := true, laidKinds := [.data, .data, .data, .data, .sentinel, .sentinel, .pinned], laidTests := true, laidLooks := .later }
def TreeLooksUptoCardSaid : Prop := Claim7.holds Tryz.pinned (.plain (OpenSpec.upto treeLooksSpec)) treeLooksUptoCard

/-- THE SECOND FORM's CARD OF 'vergerlaw15.PartSplits'. -/
def partSplitsUptoCard : Claim7 := { stood := { row := partSplitsUptoRow, standIns := [], harness := (true, "b810f0003c7ca9e732f1b9a8154707b1477004f0e2e7b6ca670713d6f9cf8e4d"), looks := true }, kinds := [], alts := [], laidByText := true, laidKinds := [.data, .data, .data, .data, .sentinel, .sentinel, .pinned], laidTests := true, laidLooks := .later }
def PartSplitsUptoCardSaid : Prop := Claim7.holds Tryz.pinned (.plain (OpenSpec.upto partSplitsSpec)) partSplitsUptoCard

/-- THE SECOND FORM's CARD OF 'vergerlaw20.AuthPasswords'. -/
def authPasswordsUptoCard : Claim7 := { stood := { row := authPasswordsUptoRow, standIns := [], harness := (true, "b810f0003c7ca9e732f1b9a8154707b1477004f0e2e7b6ca670713d6f9cf8e4d"), looks := true }, kinds := [], alts := [], laidByText := true, laidKinds := [.data, .data, .data, .data, .sentinel, .sentinel, .pinned], laidTests := true, laidLooks := .later }
def AuthPasswordsUptoCardSaid : Prop := Claim7.holds Tryz.pinned (.plain (OpenSpec.upto authPasswordsSpec)) authPasswordsUptoCard

/-- THE SECOND FORM's CARD OF 'vergerlaw15.PartBack'. -/
def partBackUptoCard : Claim7 := { stood := { row := partBackUptoRow, standIns := [], harness := (true, "b810f0003c7ca9e732f1b9a8154707b1477004f0e2e7b6ca670713d6f9cf8e4d"), looks := true }, kinds := [], alts := [], laidByText := true, laidKinds := [.data, .data, .data, .data, .sentinel, .sentinel, .pinned], laidTests := true, laidLooks := .later }
def PartBackUptoCardSaid : Prop := Claim7.holds Tryz.pinned (.plain (OpenSpec.upto partBackSpec)) partBackUptoCard

/-- THE SECOND FORM's CARD OF 'vergerlaw15.PartJoins'. -/
def partJoinsUptoCard : Claim7 := { stood := { row := partJoinsUptoRow, standIns := [], harness := (true, "b810f0003c7ca9e732f1b9a8154707b1477004f0e2e7b6ca670713d6f9cf8e4d"), looks := true }, kinds := [], alts := [], laidByText := true, laidKinds := [.data, .data, .data, .data, .sentinel, .sentinel, .pinned], laidTests := true, laidLooks := .later }
def PartJoinsUptoCardSaid : Prop := Claim7.holds Tryz.pinned (.plain (OpenSpec.upto partJoinsSpec)) partJoinsUptoCard

/-- THE SECOND FORM's CARD OF 'vergerlaw16.RouteSplit'. -/
def routeSplitUptoCard : Claim7 := { stood := { row := routeSplitUptoRow, standIns := [], harness := (true, "b810f0003c7ca9e732f1b9a8154707b1477004f0e2e7b6ca670713d6f9cf8e4d"), looks := true }, kinds := [], alts := [], laidByText := true, laidKinds := [.data, .data, .data, .data, .sentinel, .sentinel, .pinned], laidTests := true, laidLooks := .later }
def RouteSplitUptoCardSaid : Prop := Claim7.holds Tryz.pinned (.plain (OpenSpec.upto routeSplitSpec)) routeSplitUptoCard

/-- THE SECOND FORM's CARD OF 'vergerlaw10.TreeBack'. -/
def treeBackUptoCard : Claim7 := { stood := { row := treeBackUptoRow, standIns := [], harness := (true, "b810f0003c7ca9e732f1b9a8154707b1477004f0e2e7b6ca670713d6f9cf8e4d"), looks := true }, kinds := [], alts := [], laidByText := true, laidKinds := [.data, .data, .data, .data, .sentinel, .sentinel, .pinned], laidTests := true, laidLooks := .later }
def TreeBackUptoCardSaid : Prop := Claim7.holds Tryz.pinned (.plain (OpenSpec.upto treeBackSpec)) treeBackUptoCard

/-- THE SECOND FORM's CARD OF 'vergerlaw10.TreeCopies'. -/
def treeCopiesUptoCard : Claim7 := { stood := { row := treeCopiesUptoRow, standIns := [], harness := (true, "b810f0003c7ca9e732f1b9a8154707b1477004f0e2e7b6ca670713d6f9cf8e4d"), looks := true }, kinds := [], alts := [], laidByText := true, laidKinds := [.data, .data, .data, .data, .sentinel, .sentinel, .pinned], laidTests := true, laidLooks := .later }
def TreeCopiesUptoCardSaid : Prop := Claim7.holds Tryz.pinned (.plain (OpenSpec.upto treeCopiesSpec)) treeCopiesUptoCard
end Rows
end Go.Proofs.YtlbneoilhapkmaaGreatDoor
