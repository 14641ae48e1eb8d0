/- A slice of slices of bytes among the arguments, read, whatever its size. -/
import Derived.Test.YtohbbbolfdidcaaRows
import Derived.Test.YtohbbbolfdidcaaMem
import Derived.Deep.Slices
import Derived.ChangeSlices
namespace Go.Proofs.Ytohbbbolfdidcaa
open Go.RowKit Go.ChangeShapes Go.WideShapes Go.Deep

theorem open_rows_any {H : Type} {enc : TypeId × Value → H} {W : World} {A : Option Addr} {len cap fuel : Nat} {x : DataW H × List MemPlace}
    (h : DataW.trod enc Try.prog W 0 (fun _ => true) true fuel 26 [.slice A len cap] = some x) :
    ∃ xss, Sls W A len cap xss := by
  rcases open_slice1 Try.underlying26 (by kernel_rfl) h with ⟨hcs, _⟩ | ⟨a, len', cap', m, n, V, D, Pl, hcs, _, hl, hm, hmm, rfl, hx⟩
  · injection hcs with hcs _
    injection hcs with h1 h2 h3
    subst h1 h2 h3
    exact ⟨[], Sls.nil W⟩
  · injection hcs with hcs _
    injection hcs with h1 h2 h3
    subst h1 h2 h3
    simp only [if_true] at hmm
    subst hmm
    obtain ⟨f, hf⟩ := choose_lt (α := List UInt8) (n := len) (p := fun i xs => ∃ A n c, V i = .slice A n c ∧ Sl W A n c xs) (fun i hi => by
      obtain ⟨h1, h2⟩ := hx i (by omega)
      rcases open_ints Try.underlying24 Try.underlying5 (by kernel_rfl) h2 with ⟨hcs, _⟩ | ⟨x, l, c, zs, hcs, _, hl, hm, hz, hx, hcell, hwz⟩
      · injection hcs with hcs _
        exact ⟨[], _, _, _, hcs, Sl.nil W⟩
      · injection hcs with hcs _
        simp only [if_true] at hz
        exact ⟨_, _, _, _, hcs, Sl.of_ints hl hm hz hcell hwz⟩)
    refine ⟨(List.range len).map f, ⟨by simp, hl, hm, (List.range len).map V, by simp, ?_, ?_⟩⟩
    · rcases Nat.eq_zero_or_pos len with h0 | h0
      · exact .inl (by simp [h0])
      · obtain ⟨b, off, spot⟩ := a
        have hspot : spot = none := by simpa [Addr.add] using World.cell?_spot (hx 0 (by omega)).1
        subst hspot
        refine .inr ⟨b, off, rfl, fun j u hj => ?_⟩
        have hjl : j < len := by
          have := (List.getElem?_eq_some_iff.1 hj).1
          simpa using this
        rw [← addr_add, (hx j (by omega)).1]
        simpa [hjl] using hj
    · intro j v hj
      have hjl : j < len := by
        have := (List.getElem?_eq_some_iff.1 hj).1
        simpa using this
      obtain ⟨A, n, c, h1, h2⟩ := hf j hjl
      have : v = V j := by simpa [hjl] using hj.symm
      exact ⟨A, n, c, by rw [this, h1], by simpa [hjl] using h2⟩
end Go.Proofs.Ytohbbbolfdidcaa
