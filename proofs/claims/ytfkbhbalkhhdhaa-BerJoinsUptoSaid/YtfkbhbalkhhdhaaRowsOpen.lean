/- A slice of slices of bytes among the arguments, read; the bound of an '..UptoSaid'. -/
import Derived.Test.YtfkbhbalkhhdhaaRows
import Derived.Test.YtfkbhbalkhhdhaaMem
import Derived.Test.YtfkbhbalkhhdhaaBulk
import Derived.Deep.Slices
import Derived.ChangeSlices
namespace Go.Proofs.Ytfkbhbalkhhdhaa
open Go.RowKit Go.ChangeShapes Go.WideShapes Go.Deep

theorem open_rows {H : Type} {enc : TypeId × Value → H} {W : World} {A : Option Addr} {len cap fuel : Nat} {x : DataW H × List MemPlace}
    (h : DataW.trod enc Try.prog W 0 (fun _ => true) true fuel 33 [.slice A len cap] = some x) (hk : Rows.uptoBulk x.1 ≤ 1048576) :
    ∃ xss, Sls W A len cap xss ∧ len ≤ 1048576 ∧ ∀ j : Nat, (xss[j]?.getD []).length ≤ 1048576 := by
  rcases open_slice1 Try.underlying33 (by kernel_rfl) h with ⟨hcs, _⟩ | ⟨a, len', cap', m, n, V, D, Pl, hcs, _, hl, hm, hmm, rfl, hx⟩
  · injection hcs with hcs _
    injection hcs with h1 h2 h3
    subst h1 h2 h3
    exact ⟨[], Sls.nil W, by omega, by simp⟩
  · injection hcs with hcs _
    injection hcs with h1 h2 h3
    subst h1 h2 h3
    simp only [if_true] at hmm
    subst hmm
    have hb := bulks.slice_le (H := H) ((List.range len).map D) ((List.range (m - len)).map fun j => D (len + j))
    have hb2 := bulks.slice_elems (H := H) ((List.range len).map D) ((List.range (m - len)).map fun j => D (len + j))
    simp only [List.length_map, List.length_range] at hb
    simp only [] at hk
    have hD : ∀ i, i < len → Rows.uptoBulk (D i) ≤ 1048576 := fun i hi => by
      have := bulks.part_le (d := D i) (l := (List.range len).map D) (List.mem_map.2 ⟨i, List.mem_range.2 hi, rfl⟩)
      omega
    obtain ⟨f, hf⟩ := choose_lt (α := List UInt8) (n := len) (p := fun i xs => ∃ A n c, V i = .slice A n c ∧ Sl W A n c xs ∧ xs.length ≤ 1048576) (fun i hi => by
      obtain ⟨h1, h2⟩ := hx i (by omega)
      have hbd := hD i hi
      rcases open_ints Try.underlying22 Try.underlying5 (by kernel_rfl) h2 with ⟨hcs, _⟩ | ⟨x, l, c, zs, hcs, _, hl, hm, hz, hx, hcell, hwz⟩
      · injection hcs with hcs _
        exact ⟨[], _, _, _, hcs, Sl.nil W, by simp⟩
      · injection hcs with hcs _
        simp only [Prod.mk.injEq] at hx
        simp only [if_true] at hz
        have h3 := bulks.slice_le (lits (H := H) .u8 (zs.take l)) (lits .u8 (zs.drop l))
        rw [← hx.1] at h3
        simp only [lits, List.length_map, List.length_take, List.length_drop] at h3
        exact ⟨_, _, _, _, hcs, Sl.of_ints hl hm hz hcell hwz, by simp; omega⟩)
    refine ⟨(List.range len).map f, ⟨by simp, hl, hm, (List.range len).map V, by simp, ?_, ?_⟩, by omega, ?_⟩
    · rcases Nat.eq_zero_or_pos len with h0 | h0
      · exact .inl (by simp [h0])
      · obtain ⟨b, off, spot⟩ := a
        have hspot : spot = none := by simpa [Addr.add] using World.cell?_spot (hx 0 (by omega)).1
        subst hspot
        refine .inr ⟨b, off, rfl, fun j u hj => ?_⟩
        have hjl : j < len := by
          have := (List.getElem?_eq_some_iff.1 hj).1
          simpa using this
        rw [← addr_add, (hx j (by omega)).1]
        simpa [hjl] using hj
    · intro j v hj
      have hjl : j < len := by
        have := (List.getElem?_eq_some_iff.1 hj).1
        simpa using this
      obtain ⟨A, n, c, h1, h2, _⟩ := hf j hjl
      have : v = V j := by simpa [hjl] using hj.symm
      exact ⟨A, n, c, by rw [this, h1], by simpa [hjl] using h2⟩
    · intro j
      rcases Nat.lt_or_ge j len with h | h
      · obtain ⟨A, n, c, h1, h2, h3⟩ := hf j h
        simpa [h] using h3
      · rw [List.getElem?_eq_none (by simpa using h)]; simp
end Go.Proofs.Ytfkbhbalkhhdhaa
