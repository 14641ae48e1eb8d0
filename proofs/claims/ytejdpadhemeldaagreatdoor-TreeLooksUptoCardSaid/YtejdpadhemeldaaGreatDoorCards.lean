/-
  DERIVED. GIVEN WITH THE SEED: THE CARDS: each row of YtejdpadhemeldaaGreatDoorRows.lean that lists a variable, with what it lists TIED to the program's text (the seventh form; the later family's looks); each row that meets fmt, with fmt's text TOLD by the authors' own Lean function (tested against real Go, not proved from fmt's source: count such statements apart). THE CARD IS WHAT COUNTS. Prove the row's statement (the work); the ties are given (YtejdpadhemeldaaGreatDoorTie.lean); close each card by the builder's one call (the guide's Derived/Test/ToyasCard.lean, 'card_holds'). Laid BY PROGRAM, IN A SANDBOX (cutbox-door.mjs). By AI agents, Wed Nov 11 2026. No macro, syntax, notation, axiom, sorry.
-/
import Derived.Test.YtejdpadhemeldaaGreatDoorRows
import GoSem.ClaimSeven
namespace Go.Proofs.YtejdpadhemeldaaGreatDoor
namespace Rows

/-- THE TIED CARD OF 'vergerlaw10.TreeLooks'. -/
def treeLooksCard : Claim7 := { stood := { row := treeLooksRow, standIns := [], harness := (true, "78707f2f7d2f99d75efe44b9efd15a3038a23c8f8062a782c110fbb382aa462d"), looks := true }, kinds := [], alts := [], laidByText := true, laidKinds := [.data, .data, .data, .data, .sentinel, .sentinel, .pinned], laidTests := true, laidLooks := .later }
def TreeLooksCardSaid : Prop := Claim7.holds Tryz.pinned (.plain (OpenSpec.ofChange treeLooksSpec)) treeLooksCard

/-- THE SECOND FORM's CARD OF 'vergerlaw10.TreeLooks'. -/
def treeLooksUptoCard : Claim7 := { stood := { row := treeLooksUptoRow, standIns := [], harness := (true, "78707f2f7d2f99d75efe44b9efd15a3038a23c8f8062a782c110fbb382aa462d"), looks := true }, kinds := [], alts := [], laidByText := true, laidKinds := [.data, .data, .data, .data, .sentinel, .sentinel, .pinned], laidTests := true, laidLooks := .later }
def TreeLooksUptoCardSaid : Prop := Claim7.holds Tryz.pinned (.plain (OpenSpec.upto treeLooksSpec)) treeLooksUptoCard
end Rows
end Go.Proofs.YtejdpadhemeldaaGreatDoor
