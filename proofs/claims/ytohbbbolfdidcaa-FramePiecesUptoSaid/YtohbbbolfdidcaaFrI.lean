/- The cutter's Feed: what holds at its labels. -/
import Derived.Test.YtohbbbolfdidcaaFrA
import Derived.Test.YtohbbbolfdidcaaFrC
import Derived.Test.YtohbbbolfdidcaaFrP
import Derived.Test.YtohbbbolfdidcaaBerH
namespace Go.Proofs.Ytohbbbolfdidcaa
open Go.RowKit

/-- Slices that lie in block B or later ones, or are empty. -/
def NewAll (B : Nat) (vs : List Value) : Prop := ∀ v ∈ vs, ∃ A n c, v = Value.slice A n c ∧ (n = 0 ∨ ∃ a, A = some a ∧ B ≤ a.block)
theorem NewAll.snoc {B : Nat} {vs : List Value} (h : NewAll B vs) {w : World} {A : Option Addr} {n c : Nat} {xs : List UInt8} (hs : Sl w A n c xs) (hn : New B A xs) : NewAll B (vs ++ [.slice A n c]) := fun v hv => by
  rcases List.mem_append.1 hv with hv | hv
  · exact h v hv
  · obtain rfl := List.mem_singleton.1 hv
    refine ⟨A, n, c, rfl, ?_⟩
    rcases hn with rfl | hn
    · exact .inl hs.len
    · exact .inr hn

theorem grown_step {w wr w' : World} {g : Nat} {row : Option Nat} (h : w.grownBy wr (some g)) (k : wr.grownBy w' row) (hr : ∀ j, row = some j → w.heap.size ≤ j ∨ j = g) : w.grownBy w' (some g) :=
  ⟨k.os.trans h.os, k.tape.trans h.tape, k.output.trans h.output, Nat.le_trans h.size k.size, fun j hj hne => by
    rw [k.block j (Nat.lt_of_lt_of_le hj h.size) (fun e => by rcases hr j e.symm with h1 | h1; (· omega); (· exact hne (by rw [h1])))]
    exact h.block j hj hne⟩
theorem grown_ext {w wr w' : World} {g : Nat} (h : w.grownBy wr (some g)) (k : Ext wr w') : w.grownBy w' (some g) :=
  grown_step h (row := none) ⟨k.os, k.tape, k.output, k.size, fun j hj _ => k.block j hj⟩ (fun j hj => by cases hj)
theorem grown_refl (w : World) (g : Nat) : w.grownBy w (some g) := World.grownBy.refl w _

structure FI (w wr : World) (g M : Nat) (A : Option Addr) (n c : Nat) (ys : List UInt8) (ov : Bool) (v4 : Value) (q : Nat) (vs : List Value) (L : List (List UInt8)) : Prop where
  cut : Cut wr g M A n c ys ov
  own : wr.ownsRow w.heap.size 24 1 v4 q vs
  read : Vs wr (some g) v4.ownBlock vs L
  fresh : NewAll w.heap.size vs
  woff : Off (some g) v4.ownBlock A ys
  gr : w.grownBy wr (some g)
  low : g < w.heap.size
section
variable {w wr w' : World} {g M n c q : Nat} {A : Option Addr} {ys : List UInt8} {ov : Bool} {v4 : Value} {vs : List Value} {L : List (List UInt8)}
theorem FI.ext (h : FI w wr g M A n c ys ov v4 q vs L) (hx : Ext wr w') : FI w w' g M A n c ys ov v4 q vs L :=
  ⟨h.cut.ext hx, own_ext h.own hx, h.read.ext hx, h.fresh, h.woff, grown_ext h.gr hx, h.low⟩
theorem FI.push (h : FI w wr g M A n c ys ov v4 q vs L) {v4' : Value} {B : Option Addr} {m d : Nat} {xs : List UInt8} {b : Nat} (ho : w'.ownsRow w.heap.size 24 1 v4' (q + 1) (vs ++ [.slice B m d]))
    (hg : wr.grownBy w' v4.ownBlock) (hv : v4'.ownBlock = v4.ownBlock ∨ v4'.ownBlock = some wr.heap.size) (hs : Sl wr B m d xs) (hn : New b B xs) (hb : w.heap.size ≤ b) (hoff : Off (some g) v4.ownBlock B xs) :
    FI w w' g M A n c ys ov v4' (q + 1) (vs ++ [.slice B m d]) (L ++ [xs]) := by
  have hgn : some g ≠ v4.ownBlock := fun e => by have := (h.own.lt g e.symm).1; have := h.low; omega
  refine ⟨h.cut.grown hg hgn ?_, ho, (h.read.snoc hs hoff).grownR hg hv, h.fresh.snoc hs (hn.mono hb), (h.woff.swap.grown h.cut.read hv).swap, grown_step h.gr hg (fun j hj => .inl (h.own.lt j hj).1), h.low⟩
  rcases h.woff with h1 | ⟨a, h1, h2, h3⟩
  · exact .inl h1
  · exact .inr ⟨a, h1, h3, by simp⟩
theorem FI.set1 (h : FI w wr g M A n c ys ov v4 q vs L) {B : Option Addr} {m d : Nat} {xs : List UInt8} (k : Sl wr B m d xs) (hoff : Off (some g) v4.ownBlock B xs) :
    FI w (wr.setCell ⟨g, 1, none⟩ (.slice B m d)) g M B m d xs ov v4 q vs L := by
  have hgn : v4.ownBlock = none ∨ v4.ownBlock ≠ some g := .inr fun e => by have := (h.own.lt g e).1; have := h.low; omega
  exact ⟨h.cut.set1 k, h.own.kept (grown_setCell wr g 1 _) hgn, h.read.grown (grown_setCell wr g 1 _) (.inl rfl), h.fresh, hoff, grown_step h.gr (grown_setCell wr g 1 _) (fun j hj => by injection hj with hj; exact .inr hj.symm), h.low⟩
theorem FI.set2 (h : FI w wr g M A n c ys ov v4 q vs L) (o : Bool) : FI w (wr.setCell ⟨g, 2, none⟩ (.bool o)) g M A n c ys o v4 q vs L := by
  have hgn : v4.ownBlock = none ∨ v4.ownBlock ≠ some g := .inr fun e => by have := (h.own.lt g e).1; have := h.low; omega
  exact ⟨h.cut.set2 o, h.own.kept (grown_setCell wr g 2 _) hgn, h.read.grown (grown_setCell wr g 2 _) (.inl rfl), h.fresh, h.woff, grown_step h.gr (grown_setCell wr g 2 _) (fun j hj => by injection hj with hj; exact .inr hj.symm), h.low⟩
theorem FI.set0 (h : FI w wr g M A n c ys ov v4 q vs L) (M' : Nat) : FI w (wr.setCell ⟨g, 0, none⟩ (.int .i64 (M' : Int))) g M' A n c ys ov v4 q vs L := by
  have hgn : v4.ownBlock = none ∨ v4.ownBlock ≠ some g := .inr fun e => by have := (h.own.lt g e).1; have := h.low; omega
  exact ⟨h.cut.set0 M', h.own.kept (grown_setCell wr g 0 _) hgn, h.read.grown (grown_setCell wr g 0 _) (.inl rfl), h.fresh, h.woff, grown_step h.gr (grown_setCell wr g 0 _) (fun j hj => by injection hj with hj; exact .inr hj.symm), h.low⟩
theorem FI.start (h : Cut w g M A n c ys ov) : FI w w g M A n c ys ov (.slice none 0 0) 0 [] [] :=
  ⟨h, World.ownsRow_nil _ _ _ _, Vs.nil _ _ _, (fun v hv => by cases hv), h.off h.read, World.grownBy.refl w _, h.lt⟩
theorem FI.offNew (h : FI w wr g M A n c ys ov v4 q vs L) {B : Option Addr} {xs : List UInt8} (hn : New wr.heap.size B xs) : Off (some g) v4.ownBlock B xs :=
  hn.off (fun k hk => by injection hk with hk; subst hk; exact h.cut.lt) (fun k hk => (h.own.lt k hk).2)
end

/-- What Feed leaves. -/
def FeedR (w : World) (g M : Nat) (p : List (List UInt8) × List UInt8 × Nat) (e : Ending) (w' : World) : Prop :=
  ∃ v4 q vs A n c, e = .returned (.tuple #[v4, .int .i64 (p.2.2 : Int)]) ∧ FI w w' g M A n c p.2.1 (p.2.2 != 0) v4 q vs p.1
/-- .. and what waits lies in new memory. -/
def FeedN (w : World) (g M : Nat) (p : List (List UInt8) × List UInt8 × Nat) (e : Ending) (w' : World) : Prop :=
  ∃ v4 q vs A n c, e = .returned (.tuple #[v4, .int .i64 (p.2.2 : Int)]) ∧ FI w w' g M A n c p.2.1 (p.2.2 != 0) v4 q vs p.1 ∧ New w.heap.size A p.2.1
end Go.Proofs.Ytohbbbolfdidcaa
