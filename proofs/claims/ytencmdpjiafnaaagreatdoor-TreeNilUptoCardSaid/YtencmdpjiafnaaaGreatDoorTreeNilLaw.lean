import Derived.Test.YtencmdpjiafnaaaGreatDoorCards
import Derived.Test.YtencmdpjiafnaaaGreatDoorTie
import Derived.Test.YtencmdpjiafnaaaGreatDoorZ48
import Derived.Test.YtencmdpjiafnaaaGreatDoorZ44
import Derived.Test.YtencmdpjiafnaaaGreatDoorZ49
import Derived.Test.YtencmdpjiafnaaaGreatDoorZ40
import Derived.WalkKit
import Derived.ProofKit
import Derived.OpenShut
import Derived.ShutString
import Derived.Below
import Derived.ChangeOld
import Derived.Deep.DeepHandedRow
import Derived.Deep.DeepWitnessRowRef
/- TreeNil: the row's step round the walk of the law, and the tied card. Condition: the input is of bulk at most 1048576 (the given second form). -/
namespace Go.Proofs.YtencmdpjiafnaaaGreatDoor.treeNilDone
open Go.ChangeShapes Go.WideShapes Go.ChangeAt Go.RowKit Go.Deep
open Go.ChangeMaps (open_string shut_string)
set_option linter.unusedVariables false
set_option maxRecDepth 100000

theorem own : ownKnob Tryz.prog.godebug = none := by kernel_rfl
theorem laidOut : laidOutB Tryz.prog = true := by kernel_rfl
theorem contract (H : Type) (enc : TypeId × Value → H) (W : World) (base : Nat) (args : Array Value) (ds gs : List (DataW H)) (before : List MemPlace)
    (hval : ∀ (j : Nat) t v, Tryz.f5.params[j]? = some t → args[j]? = some v → Value.okWide Tryz.prog W .any base t v)
    (hW : DataW.Whole enc Tryz.prog Tryz.f5.params.toList Rows.treeNilSpec.vars false W args.toList ds gs before) (hk : Rows.uptoSmall H (ds ++ gs) = true)
    (hL : laidMetH Tryz.prog Rows.treeNilUptoRow.laid W) (hsh : W.ShapedOpen Tryz.prog) :
    Calls Tryz.prog 5 args W fun e W' => ∃ v, e = .returned v ∧ Rows.treeNilSpec.post enc Tryz.prog Tryz.f5 false true false false W args v W' := by
  have HGL : Gl W := gl_of_laid hL hsh
  have hW' := hW
  obtain ⟨p, q, hA0, hV, rfl, hfz, hnd⟩ := hW
  have hA : DataW.TrodAll enc Tryz.prog W 0 (fun _ => true) true Tryz.f5.params.toList args.toList ds p := hA0
  rw [Tryz.params5] at hA hval
  obtain ⟨v0, vs0, d0, ds0, p0, q0, hargs, rfl, rfl, h0, r0⟩ := trodAll_cons hA
  obtain ⟨rfl, rfl, rfl⟩ := trodAll_nil r0
  obtain rfl : args = #[v0] := by cases args; simp_all
  obtain ⟨rfl, rfl⟩ := trodVars_none hV
  have k0 := h0
  have lt0 : ∀ x ∈ p0, x.block < W.heap.size := by obtain ⟨m, hm⟩ := k0; exact DataW.trod_lt m _ _ _ hm
  obtain ⟨A0, n0, c0, B0, m0, d0', a0, e0, hr0, ht0, hq0⟩ : ∃ (A : Option Addr) (n c : Nat) (B : Option Addr) (m d : Nat) (o : Opr), v0.cells.toList = o.cells A n c B m d ∧ Row Elem.att (fun _ => True) W A n c o.atts ∧ Row Elem.chg (fun _ => True) W B m d o.chgs ∧ OprOk o := by
    obtain ⟨fuel, hf⟩ := h0
    exact opr_open (Nat.le_refl _) hf (Nat.le_trans (bulks.part_le (by simp)) (bulks.bound hk))
  obtain rfl : v0 = .agg #[.int .i64 a0.kind, .string a0.name, .string a0.part, .string a0.sup, .bool a0.flag, .bool a0.has, .slice A0 n0 c0, .slice B0 m0 d0'] := agg_of_list e0 (by simp)
  clear hA0
  refine (treenil_any hr0 ht0 hq0 HGL).mono fun e W' ⟨he, bel⟩ => ?_
  subst he
  exact ⟨_, rfl, _, _, _, [], _, [], hW', trodAll_mk1 (shut_bool Tryz.underlying4 _), (trodAll_cons_mk (Below.trod laidOut (by kernel_rfl) (of_decide_eq_true (by kernel_rfl)) k0 bel lt0) trodAll_mk0), rfl, bel.frame _, fun h => by cases h⟩

/-- A datum of integers, as cells. -/
def cellOf : DataW Unit → Value
  | .lit (.int k z) => .int k z
  | _ => undef
def cells1 : DataW Unit → List Value
  | .agg l => l.map cellOf
  | _ => []
def cells2 : DataW Unit → List Value
  | .agg l => l.flatMap cells1
  | _ => []
/-- A world for the witness: the settled one with the two errors' blocks, the seven variables holding what the row lists. -/
noncomputable def laidWorld (os : Os) : World :=
  let N := (World.settled Tryz.prog os).heap.size
  let w0 := World.holding Tryz.prog os ⟨#[.cells #[.string ⟨#[118, 97, 108, 117, 101, 32, 111, 117, 116, 32, 111, 102, 32, 114, 97, 110, 103, 101]⟩] 291, .cells #[.string ⟨#[105, 110, 118, 97, 108, 105, 100, 32, 115, 121, 110, 116, 97, 120]⟩] 291], #[], []⟩
  let put (h : Array Obj) (g : Nat) (cs : Array Value) : Array Obj := h.modify g fun
    | .cells _ t frozen => .cells cs t frozen
    | o => o
  let h0 := put (put w0.heap 2 #[.iface 289 (.pointer (some ⟨N, 0, none⟩))]) 1 #[.iface 289 (.pointer (some ⟨N + 1, 0, none⟩))]
  let h1 := put h0 7 (cells1 Rows.laid_math_bits_deBruijn32tab).toArray
  let h2 := put h1 8 (cells1 Rows.laid_math_bits_deBruijn64tab).toArray
  let h3 := put h2 3 (cells1 Rows.laid_internal_strconv_uint64pow10).toArray
  let h4 := put h3 6 (cells2 Rows.laid_unicode_utf8_acceptRanges).toArray
  let h5 := put h4 5 (cells1 Rows.laid_unicode_utf8_first).toArray
  { w0 with heap := h5 }
theorem laid_met (os : Os) (args : Array Value) : laidMet Tryz.prog Rows.treeNilUptoRow.laid ((laidWorld os).forCall (fun _ _ => 0) ⟨#[], args, []⟩).memory :=
  laidMet_of_run' 8 (by kernel_rfl) (by kernel_rfl)
abbrev wargs : Array Value := #[.agg #[.int .i64 0, .string ByteArray.empty, .string ByteArray.empty, .string ByteArray.empty, .bool false, .bool false, .slice none 0 0, .slice none 0 0]]
theorem reads (os : Os) {H : Type} (enc : TypeId × Value → H) : ∃ places, DataW.whole enc Tryz.prog ((laidWorld os).forCall (fun _ _ => 0) ⟨#[], wargs, []⟩).memory Tryz.f5.params.toList Rows.treeNilSpec.vars false wargs.toList 8 = some ([.agg [.lit (.int .i64 0), .lit (.string []), .lit (.string []), .lit (.string []), .lit (.bool false), .lit (.bool false), .nil, .nil]], [], places) :=
  ⟨[], by kernel_rfl⟩
theorem lifted (os : Os) (started : os.Started) (H : Type) (enc : TypeId × Value → H) (F : Stop.Interp) :
    ReturnsInHanded {} Tryz.checked os 5 .any ((Rows.OpenSpec.upto Rows.treeNilSpec).preRow enc Tryz.prog Tryz.f5 Rows.treeNilUptoRow.domain false Rows.treeNilUptoRow.laid) (((Rows.OpenSpec.upto Rows.treeNilSpec).at F).post enc Tryz.prog Tryz.f5 false true false false) := by
  obtain ⟨places, hx⟩ := reads os enc
  refine returnsInHanded_of_row (C := Tryz.checked) (s := Rows.OpenSpec.upto Rows.treeNilSpec) own started (by kernel_rfl) Tryz.func5
    (witness_row_atRef (enc := enc) (C := Tryz.checked) false (laidWorld os) wargs rfl (by kernel_rfl) (by kernel_rfl) (by kernel_rfl)
      (OpenSpec.preRow_of_cond 8 hx (by kernel_rfl) (fun k hk => by cases hk; kernel_rfl) (by kernel_rfl) (laid_met os _))) ?_
  intro W base args ds gs before hval hW _ hcond _ hL hsh _
  exact contract H enc W base args ds gs before hval hW (hcond _ rfl) hL hsh
theorem saidUpto : Rows.TreeNilUptoSaid :=
  OpenClaim.holds_of_cond 5 Tryz.f5 rfl rfl rfl rfl rfl rfl rfl ⟨rfl, rfl, rfl, rfl, rfl⟩ rfl rfl rfl rfl rfl (by kernel_rfl) Tryz.func5 (by kernel_rfl)
    (of_decide_eq_true (by kernel_rfl)) (by unfold Func.isWrapper; first | (rw [if_pos (by decide +kernel)]; kernel_rfl) | (rw [if_neg (by decide +kernel)]; exact ⟨rfl, rfl⟩))
    (fun os started H enc _ F => by rw [OpenClaim.pre_eq_preRow]; exact lifted os started H enc F)
theorem plain (f : FuncId) (fn : Func) (hf : Tryz.pinned.checked.prog.funcNamed "verger/vergerlaw10.TreeNil" = some f) (hfn : Tryz.pinned.checked.prog.funcs[f]? = some fn) :
    true = Tryz.pinned.checked.prog.looks [] ∧ ∀ (j : Nat) t, fn.params[j]? = some t → Tryz.pinned.checked.prog.wantsStandIn t = false := by
  obtain rfl : f = 5 := Option.some.inj ((show Tryz.prog.funcNamed "verger/vergerlaw10.TreeNil" = some 5 by kernel_rfl).symm.trans hf) |>.symm
  obtain rfl : fn = Tryz.f5 := (Option.some.inj (Tryz.func5.symm.trans hfn)).symm
  refine ⟨by kernel_rfl, fun j t ht => ?_⟩
  rw [Tryz.params5] at ht
  have h : t = 48 := by simpa using Array.mem_of_getElem? ht
  subst h
  · exact (show Tryz.prog.wantsStandIn 48 = false by kernel_rfl)
theorem proved : Rows.TreeNilUptoCardSaid :=
  Claim7.holds_tied_plain_at .later [] _ _ _ _ saidUpto (fun _ h => by cases h) (by kernel_rfl) (fun _ h => by cases h) treeNilUpto_row_tie rfl ⟨rfl, rfl⟩ (by kernel_rfl) rfl plain (by kernel_rfl)
#print axioms proved
end Go.Proofs.YtencmdpjiafnaaaGreatDoor.treeNilDone
