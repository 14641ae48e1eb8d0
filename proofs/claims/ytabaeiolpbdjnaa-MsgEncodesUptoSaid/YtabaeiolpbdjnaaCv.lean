/- '[]byte(s)' of any text: a new slice that reads as its bytes. -/
import Derived.Test.YtabaeiolpbdjnaaMem
import Derived.Lib.ConvBytes
namespace Go.Proofs.Ytabaeiolpbdjnaa
open Go.RowKit

/-- The bytes of a text. -/
abbrev bys (s : ByteArray) : List UInt8 := s.data.toList
theorem bys_len (s : ByteArray) : (bys s).length = s.size := by obtain ⟨⟨l⟩⟩ := s; rfl
theorem str_emp {s : ByteArray} (h : s.size = 0) : s = ByteArray.empty := by
  obtain ⟨⟨l⟩⟩ := s
  cases l
  · rfl
  · simp [ByteArray.size] at h
/-- What the walk reads of a text's emptiness. -/
theorem emp_yes {s : ByteArray} (h : s.size = 0) : s.toList = [] := by
  rw [str_emp h, ByteArray.toList_eq]; rfl
theorem emp_no {s : ByteArray} (h : ¬ s.size = 0) : ¬ s.toList = [] := by
  intro e
  rw [ByteArray.toList_eq] at e
  apply h
  obtain ⟨⟨l⟩⟩ := s
  simp at e
  subst e
  rfl
/-- '[]byte(s)': the new block alone is new. -/
structure Fresh (w : World) (A : Option Addr) (w' : World) : Prop where
  at_ : A = some ⟨w.heap.size, 0, none⟩
  size : w'.heap.size = w.heap.size + 1
  ext : Ext w w'
theorem run_tobytes {P : Program} (w : World) (src dst e : TypeId) (s : ByteArray) (hs : P.underlying src = some .string) (hd : P.underlying dst = some (.slice e)) (he : P.underlying e = some (.int .u8)) (hm : s.size ≤ maxLen) :
    ∃ A c w', (convert src dst (.string s)).run P w = .ok (.slice A s.size c) w' ∧ Sl w' A s.size c (bys s) ∧ Fresh w A w' := by
  have hx : Ext w (Lib.bytesWorld w e s) := by
    refine ⟨?_, ?_, ?_, by rw [Lib.bytesWorld_size]; omega, fun k hk => Lib.bytesWorld_at_old w e s k hk⟩
    all_goals
      simp only [Lib.bytesWorld, World.freeze, World.alloc, World.drew]
      split <;> rfl
  refine ⟨_, _, _, Lib.run_convert_string_bytes w src dst e s hs hd he, ⟨(bys_len s).symm, grownCap_ge w s.size 0 e, grownCap_le_maxLen w s.size 0 e hm, ?_⟩, rfl, Lib.bytesWorld_size w e s, hx⟩
  refine .inr ⟨w.heap.size, 0, rfl, fun j u hj => ?_⟩
  have hl : j < s.size := by
    rw [← bys_len s]
    have := (List.getElem?_eq_some_iff.1 hj).1
    simpa using this
  rw [Nat.zero_add, Lib.bytesWorld_cell w e s j hl]
  rw [List.getElem?_map] at hj
  have : (bys s)[j]? = some ((bys s).getD j 0) := by
    rw [List.getD_eq_getElem?_getD, List.getElem?_eq_getElem (by rw [bys_len]; exact hl)]; rfl
  rw [this] at hj
  simpa [bv] using hj
section
variable {w : World} {ops : Array Oper} {rest : List Oper} {o : Oper} {a : Act} {Q : Exit → Act → World → Prop} {K : Act → World → Prop}
theorem tobytes_wp (x : Operand) (ho : o.op = .convert 9 33 x) (s : ByteArray) (hx : a.eval x = .string s) (hm : s.size ≤ maxLen)
    (h : ∀ A c w', Sl w' A s.size c (bys s) → Fresh w A w' → K (a.put o.dst (.slice A s.size c)) w') : o.wp Try.prog a w K Q := by
  obtain ⟨A, c, w', hr, h1, h2⟩ := run_tobytes (P := Try.prog) w _ _ _ s Try.underlying9 Try.underlying33 Try.underlying5 hm
  unfold Oper.wp execOp
  simp only [ho, hx, Sem.run_bind, hr, Result.andThen_ok, Sem.run_pure]
  exact h A c w' h1 h2
theorem tobytes_arm (hgd : o.guard = none) (x : Operand) (ho : o.op = .convert 9 33 x) (s : ByteArray) (hx : a.eval x = .string s) (hm : s.size ≤ maxLen)
    (h : ∀ A c w', Sl w' A s.size c (bys s) → Fresh w A w' → wpList Try.prog ops Q rest (a.put o.dst (.slice A s.size c)) w') : wpList Try.prog ops Q (o :: rest) a w :=
  wpList_plain hgd fun _ hK => tobytes_wp x ho s hx hm fun A c w' h1 h2 => hK _ _ (h A c w' h1 h2)
end
end Go.Proofs.Ytabaeiolpbdjnaa
