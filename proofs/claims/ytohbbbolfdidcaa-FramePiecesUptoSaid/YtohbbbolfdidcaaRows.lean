/-
  No cell of these rows narrows 'for every input' (looked for: loops, veiled, ifaces, maps, wideKeys, modest, calm, conditions, laid).
  DERIVED. THE GIVEN ROWS OF THIS SEAT. 5 by the template 'for every input the law returns true; each argument reads behind the call as it read before'; 0 by the template 'total and deterministic' (their statements: YtohbbbolfdidcaaTotals.lean).
  GIVEN WITH THE SEED: the statements are not yours to turn. If you find one false, say at which input.
  Laid BY PROGRAM, IN A SANDBOX (cutbox-rows.mjs): the forced cells as the released guide's own fill.sh prints them over the translation 40b8fc3b8f264697… (all of the seat's roots in one cut). By AI agents, Wed Nov 11 2026. No macro, syntax, notation, axiom, sorry.
-/
import Derived.Test.YtohbbbolfdidcaaChecked
import GoSem.Claim
import GoSem.ClaimJoined
import GoSem.ClaimMapViews
import Derived.JoinedTies
import Derived.KernelRfl
namespace Go.Proofs.Ytohbbbolfdidcaa
/- THE CELL 'sum', in the pinned program and in every row, IS THE sha256 OF THE DUMP (.gsa) THAT YtohbbbolfdidcaaProg.lean LOADS. Nothing in Lean hashes anything: it is a label: what it is worth is what the hold of that sum in a sandbox is worth. -/
noncomputable def Try.pinned : Pinned := { name := "ytohbbbolfdidcaa", sum := "40b8fc3b8f264697464985e695c3a84738a7323d1f25ccf802f5667b778fdb35", checked := Try.checked }
namespace Rows
def none {H : Type} : Left H := { results := [], args := [] }

/-- 'vergerlaw02.FrameLong': WHATEVER THE INPUT: true; the input reads as it did. -/
def frameLongSpec : ChangeSpec := { name := "frameLong", fn := fun _ => fun
  | [d] => { results := [.lit (.bool true)], args := [d] }
  | _ => none }
def frameLongRow : OpenClaim := { program := "ytohbbbolfdidcaa", sum := "40b8fc3b8f264697464985e695c3a84738a7323d1f25ccf802f5667b778fdb35", func := "verger/vergerlaw02.FrameLong", spec := "frameLong", apart := false }
def FrameLongSaid : Prop := frameLongRow.holds Try.pinned (OpenSpec.ofChange frameLongSpec)

/-- ITS FALSE NEIGHBOUR: 'it returns false'. Refute it at one input. -/
def frameLongWrong : ChangeSpec := { name := "frameLong", fn := fun _ => fun
  | [d] => { results := [.lit (.bool false)], args := [d] }
  | _ => none }
def FrameLongWrongFalsely : Prop := frameLongRow.holds Try.pinned (OpenSpec.ofChange frameLongWrong)

/-- 'vergerlaw02.FrameEach': WHATEVER THE INPUT: true; the input reads as it did. -/
def frameEachSpec : ChangeSpec := { name := "frameEach", fn := fun _ => fun
  | [d] => { results := [.lit (.bool true)], args := [d] }
  | _ => none }
def frameEachRow : OpenClaim := { program := "ytohbbbolfdidcaa", sum := "40b8fc3b8f264697464985e695c3a84738a7323d1f25ccf802f5667b778fdb35", func := "verger/vergerlaw02.FrameEach", spec := "frameEach", apart := false }
def FrameEachSaid : Prop := frameEachRow.holds Try.pinned (OpenSpec.ofChange frameEachSpec)

/-- ITS FALSE NEIGHBOUR: 'it returns false'. Refute it at one input. -/
def frameEachWrong : ChangeSpec := { name := "frameEach", fn := fun _ => fun
  | [d] => { results := [.lit (.bool false)], args := [d] }
  | _ => none }
def FrameEachWrongFalsely : Prop := frameEachRow.holds Try.pinned (OpenSpec.ofChange frameEachWrong)

/-- 'vergerlaw02.FramePieces': WHATEVER THE INPUT: true; the input reads as it did. -/
def framePiecesSpec : ChangeSpec := { name := "framePieces", fn := fun _ => fun
  | [d1, d2, d3, d4] => { results := [.lit (.bool true)], args := [d1, d2, d3, d4] }
  | _ => none }
def framePiecesRow : OpenClaim := { program := "ytohbbbolfdidcaa", sum := "40b8fc3b8f264697464985e695c3a84738a7323d1f25ccf802f5667b778fdb35", func := "verger/vergerlaw02.FramePieces", spec := "framePieces", apart := false }
def FramePiecesSaid : Prop := framePiecesRow.holds Try.pinned (OpenSpec.ofChange framePiecesSpec)

/-- ITS FALSE NEIGHBOUR: 'it returns false'. Refute it at one input. -/
def framePiecesWrong : ChangeSpec := { name := "framePieces", fn := fun _ => fun
  | [d1, d2, d3, d4] => { results := [.lit (.bool false)], args := [d1, d2, d3, d4] }
  | _ => none }
def FramePiecesWrongFalsely : Prop := framePiecesRow.holds Try.pinned (OpenSpec.ofChange framePiecesWrong)

/-- 'vergerlaw02.FrameOver': WHATEVER THE INPUT: true; the input reads as it did. -/
def frameOverSpec : ChangeSpec := { name := "frameOver", fn := fun _ => fun
  | [d1, d2, d3] => { results := [.lit (.bool true)], args := [d1, d2, d3] }
  | _ => none }
def frameOverRow : OpenClaim := { program := "ytohbbbolfdidcaa", sum := "40b8fc3b8f264697464985e695c3a84738a7323d1f25ccf802f5667b778fdb35", func := "verger/vergerlaw02.FrameOver", spec := "frameOver", apart := false }
def FrameOverSaid : Prop := frameOverRow.holds Try.pinned (OpenSpec.ofChange frameOverSpec)

/-- ITS FALSE NEIGHBOUR: 'it returns false'. Refute it at one input. -/
def frameOverWrong : ChangeSpec := { name := "frameOver", fn := fun _ => fun
  | [d1, d2, d3] => { results := [.lit (.bool false)], args := [d1, d2, d3] }
  | _ => none }
def FrameOverWrongFalsely : Prop := frameOverRow.holds Try.pinned (OpenSpec.ofChange frameOverWrong)

/-- 'vergerlaw02.FrameNil': WHATEVER THE INPUT: true; the input reads as it did. -/
def frameNilSpec : ChangeSpec := { name := "frameNil", fn := fun _ => fun
  | [d] => { results := [.lit (.bool true)], args := [d] }
  | _ => none }
def frameNilRow : OpenClaim := { program := "ytohbbbolfdidcaa", sum := "40b8fc3b8f264697464985e695c3a84738a7323d1f25ccf802f5667b778fdb35", func := "verger/vergerlaw02.FrameNil", spec := "frameNil", apart := false }
def FrameNilSaid : Prop := frameNilRow.holds Try.pinned (OpenSpec.ofChange frameNilSpec)

/-- ITS FALSE NEIGHBOUR: 'it returns false'. Refute it at one input. -/
def frameNilWrong : ChangeSpec := { name := "frameNil", fn := fun _ => fun
  | [d] => { results := [.lit (.bool false)], args := [d] }
  | _ => none }
def FrameNilWrongFalsely : Prop := frameNilRow.holds Try.pinned (OpenSpec.ofChange frameNilWrong)

/- THE SECOND FORM. 'bulk': how many values and letters a reading holds, each counted each time it is reached (what is shared counts as often as it is met; a slice's spare places count too). A statement '..UptoSaid' is the law's where the arguments, and the package variables that the reading takes, are together of bulk at most 1048576: NARROWER than '..Said'. Prove '..Said' where nothing that the law and all that it calls make is longer than what came in: it says more and counts as full. Else prove '..UptoSaid'. A law counts once. -/
mutual
def uptoBulk {H : Type} : DataW H → Nat
  | .lit (.string bytes) => bytes.length + 1
  | .lit _ => 1
  | .nil => 1
  | .ptr d => uptoBulk d + 1
  | .slice elems spare => uptoBulkAll elems + uptoBulkAll spare + 1
  | .agg parts => uptoBulkAll parts + 1
  | .iface _ d => uptoBulk d + 1
  | .map entries => uptoBulkEntries entries + 1
  | .held _ => 1
def uptoBulkAll {H : Type} : List (DataW H) → Nat
  | [] => 0
  | d :: r => uptoBulk d + uptoBulkAll r
def uptoBulkEntries {H : Type} : List (Lit × DataW H) → Nat
  | [] => 0
  | x :: r => uptoBulkEntry x + uptoBulkEntries r
def uptoBulkEntry {H : Type} : Lit × DataW H → Nat
  | (.string bytes, d) => bytes.length + uptoBulk d + 1
  | (_, d) => uptoBulk d + 1
 end
def uptoSmall : (H : Type) → List (DataW H) → Bool := fun _ ds => decide (uptoBulkAll ds ≤ 1048576)
def OpenSpec.upto (s : _root_.Go.ChangeSpec) : _root_.Go.OpenSpec := { _root_.Go.OpenSpec.ofChange s with cond := some uptoSmall }

/-- 'vergerlaw02.FrameLong', WHERE WHAT IT READS IS OF BULK AT MOST 1048576: true; the input reads as it did. -/
def frameLongUptoRow : OpenClaim := { program := "ytohbbbolfdidcaa", sum := "40b8fc3b8f264697464985e695c3a84738a7323d1f25ccf802f5667b778fdb35", func := "verger/vergerlaw02.FrameLong", spec := "frameLong", apart := false, narrowed := true }
def FrameLongUptoSaid : Prop := frameLongUptoRow.holds Try.pinned (OpenSpec.upto frameLongSpec)

/-- 'vergerlaw02.FrameEach', WHERE WHAT IT READS IS OF BULK AT MOST 1048576: true; the input reads as it did. -/
def frameEachUptoRow : OpenClaim := { program := "ytohbbbolfdidcaa", sum := "40b8fc3b8f264697464985e695c3a84738a7323d1f25ccf802f5667b778fdb35", func := "verger/vergerlaw02.FrameEach", spec := "frameEach", apart := false, narrowed := true }
def FrameEachUptoSaid : Prop := frameEachUptoRow.holds Try.pinned (OpenSpec.upto frameEachSpec)

/-- 'vergerlaw02.FramePieces', WHERE WHAT IT READS IS OF BULK AT MOST 1048576: true; the input reads as it did. -/
def framePiecesUptoRow : OpenClaim := { program := "ytohbbbolfdidcaa", sum := "40b8fc3b8f264697464985e695c3a84738a7323d1f25ccf802f5667b778fdb35", func := "verger/vergerlaw02.FramePieces", spec := "framePieces", apart := false, narrowed := true }
def FramePiecesUptoSaid : Prop := framePiecesUptoRow.holds Try.pinned (OpenSpec.upto framePiecesSpec)

/-- 'vergerlaw02.FrameOver', WHERE WHAT IT READS IS OF BULK AT MOST 1048576: true; the input reads as it did. -/
def frameOverUptoRow : OpenClaim := { program := "ytohbbbolfdidcaa", sum := "40b8fc3b8f264697464985e695c3a84738a7323d1f25ccf802f5667b778fdb35", func := "verger/vergerlaw02.FrameOver", spec := "frameOver", apart := false, narrowed := true }
def FrameOverUptoSaid : Prop := frameOverUptoRow.holds Try.pinned (OpenSpec.upto frameOverSpec)

/-- 'vergerlaw02.FrameNil', WHERE WHAT IT READS IS OF BULK AT MOST 1048576: true; the input reads as it did. -/
def frameNilUptoRow : OpenClaim := { program := "ytohbbbolfdidcaa", sum := "40b8fc3b8f264697464985e695c3a84738a7323d1f25ccf802f5667b778fdb35", func := "verger/vergerlaw02.FrameNil", spec := "frameNil", apart := false, narrowed := true }
def FrameNilUptoSaid : Prop := frameNilUptoRow.holds Try.pinned (OpenSpec.upto frameNilSpec)

end Rows
end Go.Proofs.Ytohbbbolfdidcaa
