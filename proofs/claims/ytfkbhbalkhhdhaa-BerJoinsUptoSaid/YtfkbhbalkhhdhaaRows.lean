/-
  No cell of these rows narrows 'for every input' (looked for: loops, veiled, ifaces, maps, wideKeys, modest, calm, conditions, laid).
  DERIVED. THE GIVEN ROWS OF THIS SEAT. 10 by the template 'for every input the law returns true; each argument reads behind the call as it read before'; 0 by the template 'total and deterministic' (their statements: YtfkbhbalkhhdhaaTotals.lean).
  GIVEN WITH THE SEED: the statements are not yours to turn. If you find one false, say at which input.
  Laid BY PROGRAM, IN A SANDBOX (cutbox-rows.mjs): the forced cells as the released guide's own fill.sh prints them over the translation e0647c495240fb82… (all of the seat's roots in one cut). By AI agents, Wed Nov 11 2026. No macro, syntax, notation, axiom, sorry.
-/
import Derived.Test.YtfkbhbalkhhdhaaChecked
import GoSem.Claim
import GoSem.ClaimJoined
import GoSem.ClaimMapViews
import Derived.JoinedTies
import Derived.KernelRfl
namespace Go.Proofs.Ytfkbhbalkhhdhaa
/- THE CELL 'sum', in the pinned program and in every row, IS THE sha256 OF THE DUMP (.gsa) THAT YtfkbhbalkhhdhaaProg.lean LOADS. Nothing in Lean hashes anything: it is a label: what it is worth is what the hold of that sum in a sandbox is worth. -/
noncomputable def Try.pinned : Pinned := { name := "ytfkbhbalkhhdhaa", sum := "e0647c495240fb8269fd4041aa5986cc9bd0196447009303dfc87d5d987af562", checked := Try.checked }
namespace Rows
def none {H : Type} : Left H := { results := [], args := [] }

/-- 'vergerlaw01.BerBools': WHATEVER THE INPUT: true; the input reads as it did. -/
def berBoolsSpec : ChangeSpec := { name := "berBools", fn := fun _ => fun
  | [d1, d2] => { results := [.lit (.bool true)], args := [d1, d2] }
  | _ => none }
def berBoolsRow : OpenClaim := { program := "ytfkbhbalkhhdhaa", sum := "e0647c495240fb8269fd4041aa5986cc9bd0196447009303dfc87d5d987af562", func := "verger/vergerlaw01.BerBools", spec := "berBools", apart := false }
def BerBoolsSaid : Prop := berBoolsRow.holds Try.pinned (OpenSpec.ofChange berBoolsSpec)

/-- ITS FALSE NEIGHBOUR: 'it returns false'. Refute it at one input. -/
def berBoolsWrong : ChangeSpec := { name := "berBools", fn := fun _ => fun
  | [d1, d2] => { results := [.lit (.bool false)], args := [d1, d2] }
  | _ => none }
def BerBoolsWrongFalsely : Prop := berBoolsRow.holds Try.pinned (OpenSpec.ofChange berBoolsWrong)

/-- 'vergerlaw01.BerLengths': WHATEVER THE INPUT: true; the input reads as it did. -/
def berLengthsSpec : ChangeSpec := { name := "berLengths", fn := fun _ => fun
  | [d] => { results := [.lit (.bool true)], args := [d] }
  | _ => none }
def berLengthsRow : OpenClaim := { program := "ytfkbhbalkhhdhaa", sum := "e0647c495240fb8269fd4041aa5986cc9bd0196447009303dfc87d5d987af562", func := "verger/vergerlaw01.BerLengths", spec := "berLengths", apart := false }
def BerLengthsSaid : Prop := berLengthsRow.holds Try.pinned (OpenSpec.ofChange berLengthsSpec)

/-- ITS FALSE NEIGHBOUR: 'it returns false'. Refute it at one input. -/
def berLengthsWrong : ChangeSpec := { name := "berLengths", fn := fun _ => fun
  | [d] => { results := [.lit (.bool false)], args := [d] }
  | _ => none }
def BerLengthsWrongFalsely : Prop := berLengthsRow.holds Try.pinned (OpenSpec.ofChange berLengthsWrong)

/-- 'vergerlaw01.BerTakes': WHATEVER THE INPUT: true; the input reads as it did. -/
def berTakesSpec : ChangeSpec := { name := "berTakes", fn := fun _ => fun
  | [d] => { results := [.lit (.bool true)], args := [d] }
  | _ => none }
def berTakesRow : OpenClaim := { program := "ytfkbhbalkhhdhaa", sum := "e0647c495240fb8269fd4041aa5986cc9bd0196447009303dfc87d5d987af562", func := "verger/vergerlaw01.BerTakes", spec := "berTakes", apart := false }
def BerTakesSaid : Prop := berTakesRow.holds Try.pinned (OpenSpec.ofChange berTakesSpec)

/-- ITS FALSE NEIGHBOUR: 'it returns false'. Refute it at one input. -/
def berTakesWrong : ChangeSpec := { name := "berTakes", fn := fun _ => fun
  | [d] => { results := [.lit (.bool false)], args := [d] }
  | _ => none }
def BerTakesWrongFalsely : Prop := berTakesRow.holds Try.pinned (OpenSpec.ofChange berTakesWrong)

/-- 'vergerlaw01.BerLists': WHATEVER THE INPUT: true; the input reads as it did. -/
def berListsSpec : ChangeSpec := { name := "berLists", fn := fun _ => fun
  | [d] => { results := [.lit (.bool true)], args := [d] }
  | _ => none }
def berListsRow : OpenClaim := { program := "ytfkbhbalkhhdhaa", sum := "e0647c495240fb8269fd4041aa5986cc9bd0196447009303dfc87d5d987af562", func := "verger/vergerlaw01.BerLists", spec := "berLists", apart := false }
def BerListsSaid : Prop := berListsRow.holds Try.pinned (OpenSpec.ofChange berListsSpec)

/-- ITS FALSE NEIGHBOUR: 'it returns false'. Refute it at one input. -/
def berListsWrong : ChangeSpec := { name := "berLists", fn := fun _ => fun
  | [d] => { results := [.lit (.bool false)], args := [d] }
  | _ => none }
def BerListsWrongFalsely : Prop := berListsRow.holds Try.pinned (OpenSpec.ofChange berListsWrong)

/-- 'vergerlaw01.BerInts': WHATEVER THE INPUT: true; the input reads as it did. -/
def berIntsSpec : ChangeSpec := { name := "berInts", fn := fun _ => fun
  | [d] => { results := [.lit (.bool true)], args := [d] }
  | _ => none }
def berIntsRow : OpenClaim := { program := "ytfkbhbalkhhdhaa", sum := "e0647c495240fb8269fd4041aa5986cc9bd0196447009303dfc87d5d987af562", func := "verger/vergerlaw01.BerInts", spec := "berInts", apart := false }
def BerIntsSaid : Prop := berIntsRow.holds Try.pinned (OpenSpec.ofChange berIntsSpec)

/-- ITS FALSE NEIGHBOUR: 'it returns false'. Refute it at one input. -/
def berIntsWrong : ChangeSpec := { name := "berInts", fn := fun _ => fun
  | [d] => { results := [.lit (.bool false)], args := [d] }
  | _ => none }
def BerIntsWrongFalsely : Prop := berIntsRow.holds Try.pinned (OpenSpec.ofChange berIntsWrong)

/-- 'vergerlaw01.BerReads': WHATEVER THE INPUT: true; the input reads as it did. -/
def berReadsSpec : ChangeSpec := { name := "berReads", fn := fun _ => fun
  | [d] => { results := [.lit (.bool true)], args := [d] }
  | _ => none }
def berReadsRow : OpenClaim := { program := "ytfkbhbalkhhdhaa", sum := "e0647c495240fb8269fd4041aa5986cc9bd0196447009303dfc87d5d987af562", func := "verger/vergerlaw01.BerReads", spec := "berReads", apart := false }
def BerReadsSaid : Prop := berReadsRow.holds Try.pinned (OpenSpec.ofChange berReadsSpec)

/-- ITS FALSE NEIGHBOUR: 'it returns false'. Refute it at one input. -/
def berReadsWrong : ChangeSpec := { name := "berReads", fn := fun _ => fun
  | [d] => { results := [.lit (.bool false)], args := [d] }
  | _ => none }
def BerReadsWrongFalsely : Prop := berReadsRow.holds Try.pinned (OpenSpec.ofChange berReadsWrong)

/-- 'vergerlaw01.BerFields': WHATEVER THE INPUT: true; the input reads as it did. -/
def berFieldsSpec : ChangeSpec := { name := "berFields", fn := fun _ => fun
  | [d1, d2] => { results := [.lit (.bool true)], args := [d1, d2] }
  | _ => none }
def berFieldsRow : OpenClaim := { program := "ytfkbhbalkhhdhaa", sum := "e0647c495240fb8269fd4041aa5986cc9bd0196447009303dfc87d5d987af562", func := "verger/vergerlaw01.BerFields", spec := "berFields", apart := false }
def BerFieldsSaid : Prop := berFieldsRow.holds Try.pinned (OpenSpec.ofChange berFieldsSpec)

/-- ITS FALSE NEIGHBOUR: 'it returns false'. Refute it at one input. -/
def berFieldsWrong : ChangeSpec := { name := "berFields", fn := fun _ => fun
  | [d1, d2] => { results := [.lit (.bool false)], args := [d1, d2] }
  | _ => none }
def BerFieldsWrongFalsely : Prop := berFieldsRow.holds Try.pinned (OpenSpec.ofChange berFieldsWrong)

/-- 'vergerlaw01.BerBack': WHATEVER THE INPUT: true; the input reads as it did. -/
def berBackSpec : ChangeSpec := { name := "berBack", fn := fun _ => fun
  | [d1, d2, d3] => { results := [.lit (.bool true)], args := [d1, d2, d3] }
  | _ => none }
def berBackRow : OpenClaim := { program := "ytfkbhbalkhhdhaa", sum := "e0647c495240fb8269fd4041aa5986cc9bd0196447009303dfc87d5d987af562", func := "verger/vergerlaw01.BerBack", spec := "berBack", apart := false }
def BerBackSaid : Prop := berBackRow.holds Try.pinned (OpenSpec.ofChange berBackSpec)

/-- ITS FALSE NEIGHBOUR: 'it returns false'. Refute it at one input. -/
def berBackWrong : ChangeSpec := { name := "berBack", fn := fun _ => fun
  | [d1, d2, d3] => { results := [.lit (.bool false)], args := [d1, d2, d3] }
  | _ => none }
def BerBackWrongFalsely : Prop := berBackRow.holds Try.pinned (OpenSpec.ofChange berBackWrong)

/-- 'vergerlaw01.BerCuts': WHATEVER THE INPUT: true; the input reads as it did. -/
def berCutsSpec : ChangeSpec := { name := "berCuts", fn := fun _ => fun
  | [d1, d2, d3] => { results := [.lit (.bool true)], args := [d1, d2, d3] }
  | _ => none }
def berCutsRow : OpenClaim := { program := "ytfkbhbalkhhdhaa", sum := "e0647c495240fb8269fd4041aa5986cc9bd0196447009303dfc87d5d987af562", func := "verger/vergerlaw01.BerCuts", spec := "berCuts", apart := false }
def BerCutsSaid : Prop := berCutsRow.holds Try.pinned (OpenSpec.ofChange berCutsSpec)

/-- ITS FALSE NEIGHBOUR: 'it returns false'. Refute it at one input. -/
def berCutsWrong : ChangeSpec := { name := "berCuts", fn := fun _ => fun
  | [d1, d2, d3] => { results := [.lit (.bool false)], args := [d1, d2, d3] }
  | _ => none }
def BerCutsWrongFalsely : Prop := berCutsRow.holds Try.pinned (OpenSpec.ofChange berCutsWrong)

/-- 'vergerlaw01.BerJoins': WHATEVER THE INPUT: true; the input reads as it did. -/
def berJoinsSpec : ChangeSpec := { name := "berJoins", fn := fun _ => fun
  | [d1, d2] => { results := [.lit (.bool true)], args := [d1, d2] }
  | _ => none }
def berJoinsRow : OpenClaim := { program := "ytfkbhbalkhhdhaa", sum := "e0647c495240fb8269fd4041aa5986cc9bd0196447009303dfc87d5d987af562", func := "verger/vergerlaw01.BerJoins", spec := "berJoins", apart := false }
def BerJoinsSaid : Prop := berJoinsRow.holds Try.pinned (OpenSpec.ofChange berJoinsSpec)

/-- ITS FALSE NEIGHBOUR: 'it returns false'. Refute it at one input. -/
def berJoinsWrong : ChangeSpec := { name := "berJoins", fn := fun _ => fun
  | [d1, d2] => { results := [.lit (.bool false)], args := [d1, d2] }
  | _ => none }
def BerJoinsWrongFalsely : Prop := berJoinsRow.holds Try.pinned (OpenSpec.ofChange berJoinsWrong)

/- THE SECOND FORM. 'bulk': how many values and letters a reading holds, each counted each time it is reached (what is shared counts as often as it is met; a slice's spare places count too). A statement '..UptoSaid' is the law's where the arguments, and the package variables that the reading takes, are together of bulk at most 1048576: NARROWER than '..Said'. Prove '..Said' where nothing that the law and all that it calls make is longer than what came in: it says more and counts as full. Else prove '..UptoSaid'. A law counts once. -/
mutual
def uptoBulk {H : Type} : DataW H → Nat
  | .lit (.string bytes) => bytes.length + 1
  | .lit _ => 1
  | .nil => 1
  | .ptr d => uptoBulk d + 1
  | .slice elems spare => uptoBulkAll elems + uptoBulkAll spare + 1
  | .agg parts => uptoBulkAll parts + 1
  | .iface _ d => uptoBulk d + 1
  | .map entries => uptoBulkEntries entries + 1
  | .held _ => 1
def uptoBulkAll {H : Type} : List (DataW H) → Nat
  | [] => 0
  | d :: r => uptoBulk d + uptoBulkAll r
def uptoBulkEntries {H : Type} : List (Lit × DataW H) → Nat
  | [] => 0
  | x :: r => uptoBulkEntry x + uptoBulkEntries r
def uptoBulkEntry {H : Type} : Lit × DataW H → Nat
  | (.string bytes, d) => bytes.length + uptoBulk d + 1
  | (_, d) => uptoBulk d + 1
 end
def uptoSmall : (H : Type) → List (DataW H) → Bool := fun _ ds => decide (uptoBulkAll ds ≤ 1048576)
def OpenSpec.upto (s : _root_.Go.ChangeSpec) : _root_.Go.OpenSpec := { _root_.Go.OpenSpec.ofChange s with cond := some uptoSmall }

/-- 'vergerlaw01.BerBools', WHERE WHAT IT READS IS OF BULK AT MOST 1048576: true; the input reads as it did. -/
def berBoolsUptoRow : OpenClaim := { program := "ytfkbhbalkhhdhaa", sum := "e0647c495240fb8269fd4041aa5986cc9bd0196447009303dfc87d5d987af562", func := "verger/vergerlaw01.BerBools", spec := "berBools", apart := false, narrowed := true }
def BerBoolsUptoSaid : Prop := berBoolsUptoRow.holds Try.pinned (OpenSpec.upto berBoolsSpec)

/-- 'vergerlaw01.BerLengths', WHERE WHAT IT READS IS OF BULK AT MOST 1048576: true; the input reads as it did. -/
def berLengthsUptoRow : OpenClaim := { program := "ytfkbhbalkhhdhaa", sum := "e0647c495240fb8269fd4041aa5986cc9bd0196447009303dfc87d5d987af562", func := "verger/vergerlaw01.BerLengths", spec := "berLengths", apart := false, narrowed := true }
def BerLengthsUptoSaid : Prop := berLengthsUptoRow.holds Try.pinned (OpenSpec.upto berLengthsSpec)

/-- 'vergerlaw01.BerTakes', WHERE WHAT IT READS IS OF BULK AT MOST 1048576: true; the input reads as it did. -/
def berTakesUptoRow : OpenClaim := { program := "ytfkbhbalkhhdhaa", sum := "e0647c495240fb8269fd4041aa5986cc9bd0196447009303dfc87d5d987af562", func := "verger/vergerlaw01.BerTakes", spec := "berTakes", apart := false, narrowed := true }
def BerTakesUptoSaid : Prop := berTakesUptoRow.holds Try.pinned (OpenSpec.upto berTakesSpec)

/-- 'vergerlaw01.BerLists', WHERE WHAT IT READS IS OF BULK AT MOST 1048576: true; the input reads as it did. -/
def berListsUptoRow : OpenClaim := { program := "ytfkbhbalkhhdhaa", sum := "e0647c495240fb8269fd4041aa5986cc9bd0196447009303dfc87d5d987af562", func := "verger/vergerlaw01.BerLists", spec := "berLists", apart := false, narrowed := true }
def BerListsUptoSaid : Prop := berListsUptoRow.holds Try.pinned (OpenSpec.upto berListsSpec)

/-- 'vergerlaw01.BerInts', WHERE WHAT IT READS IS OF BULK AT MOST 1048576: true; the input reads as it did. -/
def berIntsUptoRow : OpenClaim := { program := "ytfkbhbalkhhdhaa", sum := "e0647c495240fb8269fd4041aa5986cc9bd0196447009303dfc87d5d987af562", func := "verger/vergerlaw01.BerInts", spec := "berInts", apart := false, narrowed := true }
def BerIntsUptoSaid : Prop := berIntsUptoRow.holds Try.pinned (OpenSpec.upto berIntsSpec)

/-- 'vergerlaw01.BerReads', WHERE WHAT IT READS IS OF BULK AT MOST 1048576: true; the input reads as it did. -/
def berReadsUptoRow : OpenClaim := { program := "ytfkbhbalkhhdhaa", sum := "e0647c495240fb8269fd4041aa5986cc9bd0196447009303dfc87d5d987af562", func := "verger/vergerlaw01.BerReads", spec := "berReads", apart := false, narrowed := true }
def BerReadsUptoSaid : Prop := berReadsUptoRow.holds Try.pinned (OpenSpec.upto berReadsSpec)

/-- 'vergerlaw01.BerFields', WHERE WHAT IT READS IS OF BULK AT MOST 1048576: true; the input reads as it did. -/
def berFieldsUptoRow : OpenClaim := { program := "ytfkbhbalkhhdhaa", sum := "e0647c495240fb8269fd4041aa5986cc9bd0196447009303dfc87d5d987af562", func := "verger/vergerlaw01.BerFields", spec := "berFields", apart := false, narrowed := true }
def BerFieldsUptoSaid : Prop := berFieldsUptoRow.holds Try.pinned (OpenSpec.upto berFieldsSpec)

/-- 'vergerlaw01.BerBack', WHERE WHAT IT READS IS OF BULK AT MOST 1048576: true; the input reads as it did. -/
def berBackUptoRow : OpenClaim := { program := "ytfkbhbalkhhdhaa", sum := "e0647c495240fb8269fd4041aa5986cc9bd0196447009303dfc87d5d987af562", func := "verger/vergerlaw01.BerBack", spec := "berBack", apart := false, narrowed := true }
def BerBackUptoSaid : Prop := berBackUptoRow.holds Try.pinned (OpenSpec.upto berBackSpec)

/-- 'vergerlaw01.BerCuts', WHERE WHAT IT READS IS OF BULK AT MOST 1048576: true; the input reads as it did. -/
def berCutsUptoRow : OpenClaim := { program := "ytfkbhbalkhhdhaa", sum := "e0647c495240fb8269fd4041aa5986cc9bd0196447009303dfc87d5d987af562", func := "verger/vergerlaw01.BerCuts", spec := "berCuts", apart := false, narrowed := true }
def BerCutsUptoSaid : Prop := berCutsUptoRow.holds Try.pinned (OpenSpec.upto berCutsSpec)

/-- 'vergerlaw01.BerJoins', WHERE WHAT IT READS IS OF BULK AT MOST 1048576: true; the input reads as it did. -/
def berJoinsUptoRow : OpenClaim := { program := "ytfkbhbalkhhdhaa", sum := "e0647c495240fb8269fd4041aa5986cc9bd0196447009303dfc87d5d987af562", func := "verger/vergerlaw01.BerJoins", spec := "berJoins", apart := false, narrowed := true }
def BerJoinsUptoSaid : Prop := berJoinsUptoRow.holds Try.pinned (OpenSpec.upto berJoinsSpec)

end Rows
end Go.Proofs.Ytfkbhbalkhhdhaa
