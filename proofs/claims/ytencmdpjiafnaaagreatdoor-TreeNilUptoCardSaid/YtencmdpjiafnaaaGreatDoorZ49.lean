import Derived.Test.YtencmdpjiafnaaaGreatDoorRows
import Derived.Test.YtencmdpjiafnaaaGreatDoorZ08
import Derived.Stop.LaidErr
import Derived.Shelf.Vars
import Derived.MakeChecks
import Derived.ProofKit
/- What the rows' list of variables gives of the library's variables. -/
namespace Go.Proofs.YtencmdpjiafnaaaGreatDoor
open Go.RowKit
set_option maxRecDepth 100000

theorem errStar : "*" ++ "errors.errorString" = "*errors.errorString" := by decide
theorem errRow (u : TypeId) (h : Tryz.prog.typeName? 3 u = some "*errors.errorString") : u = 289 :=
  typeName_ptr_named (nm := "errors.errorString") (by rw [errStar]; kernel_rfl) (by kernel_rfl) (by decide) u (by rw [errStar]; exact h)
theorem pow_eq : (Rows.laid_internal_strconv_uint64pow10 : DataW Unit) = Lib.tabData .u64 Lib.pow10Tab := by kernel_rfl
theorem gl_of_laid {W : World} (h : laidMetH Tryz.prog Rows.treeNilUptoRow.laid W) (hs : W.ShapedOpen Tryz.prog) : Gl W := by
  rw [MakeChecks.laidMetH_plain _ _ _ (by kernel_rfl)] at h
  have h2 : laidMet Tryz.prog (("internal/strconv.uint64pow10", Lib.tabData .u64 Lib.pow10Tab) :: Rows.treeNilUptoRow.laid.drop 3) W := by
    have := h.tail.tail
    rw [← pow_eq]
    exact this
  have h4 : laidMet Tryz.prog (("strconv.ErrRange", .iface "*errors.errorString" (.ptr (.agg [.lit (.string [118, 97, 108, 117, 101, 32, 111, 117, 116, 32, 111, 102, 32, 114, 97, 110, 103, 101])]))) :: Rows.treeNilUptoRow.laid.drop 5) W := h2.tail.tail
  have h5 : laidMet Tryz.prog (("strconv.ErrSyntax", .iface "*errors.errorString" (.ptr (.agg [.lit (.string [105, 110, 118, 97, 108, 105, 100, 32, 115, 121, 110, 116, 97, 120])]))) :: Rows.treeNilUptoRow.laid.drop 6) W := h4.tail
  obtain ⟨a0, s0, hv0, -, -, -⟩ := laid_sentinel h4 gRng (by kernel_rfl) Tryz.underlying146 errRow Tryz.underlying289 Tryz.underlying291 rfl rfl Tryz.underlying9 (by kernel_rfl) (by kernel_rfl)
  obtain ⟨a1, s1, hv1, -, -, -⟩ := laid_sentinel h5 gSyn (by kernel_rfl) Tryz.underlying146 errRow Tryz.underlying289 Tryz.underlying291 rfl rfl Tryz.underlying9 (by kernel_rfl) (by kernel_rfl)
  refine ⟨?_, ⟨_, _, hv1⟩, ⟨_, _, hv0⟩, ?_⟩
  · exact cell_of_shapedOpen_int (t := 3) (k := .i64) (zero := #[.int .i64 0]) hs (of_decide_eq_true (by kernel_rfl)) (by kernel_rfl) rfl (by kernel_rfl) (by kernel_rfl) Tryz.underlying3
  · exact Lib.tabIs_of_head gPow (by kernel_rfl) Tryz.underlying283 Tryz.underlying168 (by kernel_rfl) (by kernel_rfl) h2
theorem agg_of_list {v : Value} {l : List Value} (h : v.cells.toList = l) (hl : 2 ≤ l.length) : v = .agg l.toArray := by
  cases v <;> simp [Value.cells] at h <;> first | (subst h; simp at hl; done) | skip
  rw [← h]
end Go.Proofs.YtencmdpjiafnaaaGreatDoor
