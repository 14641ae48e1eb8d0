/- Three rows of the call's own: bytes, bytes, slices of bytes, that grow side by side; the steps at an operation. -/
import Derived.Test.YtfkbhbalkhhdhaaNew
import Derived.Test.YtfkbhbalkhhdhaaSeqB
namespace Go.Proofs.Ytfkbhbalkhhdhaa
open Go.RowKit

/-- Two rows lie in two blocks, or the first in none. -/
def Apart (v v' : Value) : Prop := v.ownBlock = none ∨ v.ownBlock ≠ v'.ownBlock
theorem Apart.symm {v v' : Value} (h : Apart v v') : Apart v' v := by
  unfold Apart at *
  rcases h with h | h
  · rcases h' : v'.ownBlock with _ | k
    · exact .inl rfl
    · exact .inr (by rw [h]; simp)
  · exact .inr (Ne.symm h)
theorem Apart.grown {v v' v2 : Value} {w : World} {base : Nat} {e : TypeId} {n : Nat} {xs : List Value} (h : Apart v v') (ho : w.ownsRow base e 1 v n xs) (hv : v2.ownBlock = v'.ownBlock ∨ v2.ownBlock = some w.heap.size) : Apart v v2 := by
  unfold Apart at *
  rcases hv with e | e
  · rw [e]; exact h
  · rcases h2 : v.ownBlock with _ | k2
    · exact .inl rfl
    · refine .inr fun e' => ?_
      rw [e] at e'
      injection e' with e'
      have := (ho.lt _ h2).2
      omega

structure Three (w wr : World) (v5 v6 v7 : Value) (al T : List UInt8) (k : Nat) (vs : List Value) : Prop where
  r5 : wr.ownsRow w.heap.size 5 1 v5 al.length (al.map bv)
  r6 : wr.ownsRow w.heap.size 5 1 v6 T.length (T.map bv)
  r7 : wr.ownsRow w.heap.size 22 1 v7 k vs
  a56 : Apart v5 v6
  a57 : Apart v5 v7
  a67 : Apart v6 v7
  far : Ext w wr
section
variable {w wr w' : World} {v5 v6 v7 v' : Value} {al T xs : List UInt8} {k m : Nat} {vs : List Value}
theorem Three.start (w : World) : Three w w (.slice none 0 0) (.slice none 0 0) (.slice none 0 0) [] [] 0 [] :=
  ⟨World.ownsRow_nil _ _ _ _, World.ownsRow_nil _ _ _ _, World.ownsRow_nil _ _ _ _, .inl rfl, .inl rfl, .inl rfl, Ext.refl w⟩
theorem Three.ext (h : Three w wr v5 v6 v7 al T k vs) (hx : Ext wr w') : Three w w' v5 v6 v7 al T k vs :=
  ⟨own_ext h.r5 hx, own_ext h.r6 hx, own_ext h.r7 hx, h.a56, h.a57, h.a67, h.far.trans hx⟩
theorem Three.g5 (h : Three w wr v5 v6 v7 al T k vs) (ho : w'.ownsRow w.heap.size 5 1 v' m (xs.map bv)) (hg : wr.grownBy w' v5.ownBlock) (hv : v'.ownBlock = v5.ownBlock ∨ v'.ownBlock = some wr.heap.size) :
    Three w w' v' v6 v7 xs T k vs := by
  obtain rfl : m = xs.length := by simpa using ho.1.symm
  exact ⟨ho, h.r6.kept hg h.a56.symm, h.r7.kept hg h.a57.symm, (h.a56.symm.grown h.r6 hv).symm, (h.a57.symm.grown h.r7 hv).symm, h.a67, Below.grown h.far hg h.far.size (fun k hk => (h.r5.lt k hk).1)⟩
theorem Three.g6 (h : Three w wr v5 v6 v7 al T k vs) (ho : w'.ownsRow w.heap.size 5 1 v' m (xs.map bv)) (hg : wr.grownBy w' v6.ownBlock) (hv : v'.ownBlock = v6.ownBlock ∨ v'.ownBlock = some wr.heap.size) :
    Three w w' v5 v' v7 al xs k vs := by
  obtain rfl : m = xs.length := by simpa using ho.1.symm
  exact ⟨h.r5.kept hg h.a56, ho, h.r7.kept hg h.a67.symm, h.a56.grown h.r5 hv, h.a57, (h.a67.symm.grown h.r7 hv).symm, Below.grown h.far hg h.far.size (fun k hk => (h.r6.lt k hk).1)⟩
theorem Three.g7 (h : Three w wr v5 v6 v7 al T k vs) {us : List Value} (ho : w'.ownsRow w.heap.size 22 1 v' m us) (hg : wr.grownBy w' v7.ownBlock) (hv : v'.ownBlock = v7.ownBlock ∨ v'.ownBlock = some wr.heap.size) :
    Three w w' v5 v6 v' al T m us :=
  ⟨h.r5.kept hg h.a57, h.r6.kept hg h.a67, ho, h.a56, h.a57.grown h.r5 hv, h.a67.grown h.r6 hv, Below.grown h.far hg h.far.size (fun k hk => (h.r7.lt k hk).1)⟩
end

theorem own_wp {w : World} {o : Oper} {a : Act} {K : Act → World → Prop} {Q : Exit → Act → World → Prop} (s x : Operand)
    (ho : o.op = .call { callee := .builtin .append, args := #[s, x], argTypes := #[22, 22] })
    (base : Nat) (v : Value) (n : Nat) (xs : List UInt8) (hs : a.eval s = v) (hown : w.ownsRow base 5 1 v n (xs.map bv))
    (A : Option Addr) (m c : Nat) (ys : List UInt8) (hx : a.eval x = .slice A m c) (hy : Sl w A m c ys)
    (hbytes : n + m ≤ 140737488355328) (hbase : base ≤ w.heap.size)
    (h : ∀ v' w', w'.ownsRow base 5 1 v' (n + m) ((xs ++ ys).map bv) → Below base w w' → w.grownBy w' v.ownBlock → (v'.ownBlock = v.ownBlock ∨ v'.ownBlock = some w.heap.size) → K (a.put o.dst v') w') : o.wp Try.prog a w K Q := by
  obtain ⟨i0, hi, hz0, hz1, hz2⟩ := info_parts Try.infoByte
  refine wp_append_cells s x 22 ho base 5 i0 (.int .u8 0) 1 Try.underlying22 hi hz0 hz1 hz2 rfl v n (xs.map bv) hs hown A m c (ys.map bv) hx (by simpa using hy.len) hy.cells ?_ (by simp [maxLen]; omega) (by omega) hbase ?_
  · intro u hu
    obtain ⟨b, _, rfl⟩ := List.mem_map.1 hu
    rfl
  · intro v' w' h1 h2 h3
    rw [← List.map_append] at h1
    exact h v' w' h1 ((Below.refl base w).grown h2 hbase (fun k hk => (hown.lt k hk).1)) h2 h3
theorem ownR_wp {w : World} {o : Oper} {a : Act} {K : Act → World → Prop} {Q : Exit → Act → World → Prop} (s x : Operand)
    (ho : o.op = .call { callee := .builtin .append, args := #[s, x], argTypes := #[33, 33] })
    (base : Nat) (v : Value) (n : Nat) (vs : List Value) (hs : a.eval s = v) (hown : w.ownsRow base 22 1 v n vs)
    (g : Nat) (u : Value) (hx : a.eval x = .slice (some ⟨g, 0, none⟩) 1 1) (hc : w.cell? ⟨g, 0, none⟩ = some u) (h1 : u.oneCell' = true)
    (hbytes : (n + 1) * 24 ≤ 140737488355328) (hbase : base ≤ w.heap.size)
    (h : ∀ v' w', w'.ownsRow base 22 1 v' (n + 1) (vs ++ [u]) → Below base w w' → w.grownBy w' v.ownBlock → (v'.ownBlock = v.ownBlock ∨ v'.ownBlock = some w.heap.size) → K (a.put o.dst v') w') : o.wp Try.prog a w K Q := by
  obtain ⟨i0, hi, hz0, hz1, hz2⟩ := info_parts Try.infoRow
  refine wp_append_cells s x 33 ho base 22 i0 (.slice none 0 0) 24 Try.underlying33 hi hz0 hz1 hz2 rfl v n vs hs hown (some ⟨g, 0, none⟩) 1 1 [u] hx rfl ?_ ?_ (by simp [maxLen]; omega) hbytes hbase ?_
  · refine .inr ⟨g, 0, rfl, fun j u' hj => ?_⟩
    rcases j with _ | j
    · simp at hj; subst hj; exact hc
    · simp at hj
  · intro u' hu
    simp at hu
    subst hu
    exact h1
  · intro v' w' h1 h2 h3
    exact h v' w' h1 ((Below.refl base w).grown h2 hbase (fun k hk => (hown.lt k hk).1)) h2 h3
theorem litR_wp {w : World} {o : Oper} {a : Act} {K : Act → World → Prop} {Q : Exit → Act → World → Prop} (x : Operand) (ho : o.op = .buildSlice 33 1 #[(0, x)]) (A : Option Addr) (n c : Nat) (hx : a.eval x = .slice A n c)
    (h : ∀ g w', Ext w w' → g = w.heap.size → w'.cell? ⟨g, 0, none⟩ = some (.slice A n c) → K (a.put o.dst (.slice (some ⟨g, 0, none⟩) 1 1)) w') : o.wp Try.prog a w K Q := by
  have hr : (execOp a.eval o).run Try.prog w = .ok (.value (.slice (some ⟨w.heap.size, 0, none⟩) 1 1)) (w.alloc (.cells #[.slice A n c] 22)) := by
    unfold execOp
    simp only [ho, List.map_toArray, List.map_cons, List.map_nil, hx]
    kernel_rfl
  unfold Oper.wp
  rw [hr]
  exact h _ _ (Ext.alloc _ _) rfl (cell_new _ _ _)
theorem cell_laterB {w wr : World} {B : Nat} {p : Addr} {v : Value} (h : w.cell? p = some v) (hB : B = w.heap.size) (hx : Below B w wr) : ∀ w', Below B wr w' → w'.cell? p = some v := fun w' h' => by
  subst hB
  exact ((Below.trans hx h').cell (World.block_lt_of_cell? w p h)).trans h
end Go.Proofs.Ytfkbhbalkhhdhaa
