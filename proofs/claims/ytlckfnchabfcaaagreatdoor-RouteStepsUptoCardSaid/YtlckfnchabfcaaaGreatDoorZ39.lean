import Derived.Test.YtlckfnchabfcaaaGreatDoorZ38
import Derived.Test.YtlckfnchabfcaaaGreatDoorZ06
import Derived.Test.YtlckfnchabfcaaaGreatDoorRows
/- Plain: which cut a name is under; the way to who holds a name, and that it goes step by step. -/
namespace Go.Proofs.YtlckfnchabfcaaaGreatDoor
set_option linter.unusedSimpArgs false
set_option linter.unusedVariables false

/-- A cut; a context with its cuts. -/
structure CutR where
  name : ByteArray
  server : Int
/-- How many parts a name has. -/
def depthS (s : List UInt8) : Int := ((okL (partsB s)).length : Int)
/-- One step of the search for the deepest cut: the place, and its depth. -/
def deepStep (nm : List UInt8) (i : Nat) (st : Int × Int) (c : CutR) : Int × Int := if decide (st.2 < depthS (bys c.name)) && underS nm (bys c.name) then ((i : Int), depthS (bys c.name)) else st
def deepGo (nm : List UInt8) : Nat → Int × Int → List CutR → Int × Int
  | _, st, [] => st
  | i, st, c :: t => deepGo nm (i + 1) (deepStep nm i st c) t
def deepF (l : List CutR) (nm : List UInt8) : Int := (deepGo nm 0 (-1, -1) l).1
theorem deepGo_append (nm : List UInt8) : ∀ (l k : List CutR) (i : Nat) (st : Int × Int), deepGo nm i st (l ++ k) = deepGo nm (i + l.length) (deepGo nm i st l) k
  | [], k, i, st => by simp [deepGo]
  | c :: t, k, i, st => by
    simp only [List.cons_append, deepGo, List.length_cons]
    rw [deepGo_append nm t k]
    congr 1
    omega
theorem deepGo_take {nm : List UInt8} {l : List CutR} {j : Nat} {c : CutR} (h : l[j]? = some c) : deepGo nm 0 (-1, -1) (l.take (j + 1)) = deepStep nm j (deepGo nm 0 (-1, -1) (l.take j)) c := by
  have hj := (List.getElem?_eq_some_iff.1 h).1
  rw [List.take_add_one, h, deepGo_append]
  simp only [Option.toList_some, deepGo, List.length_take]
  congr 1
  omega
/-- What a step leaves is a place ahead, or none. -/
theorem deepGo_range (nm : List UInt8) : ∀ (l : List CutR) (i : Nat) (st : Int × Int), -1 ≤ st.1 → st.1 < i → -1 ≤ (deepGo nm i st l).1 ∧ (deepGo nm i st l).1 < i + l.length
  | [], i, st, h1, h2 => by simp only [deepGo, List.length_nil]; omega
  | c :: t, i, st, h1, h2 => by
    have h3 : -1 ≤ (deepStep nm i st c).1 ∧ (deepStep nm i st c).1 < (i + 1 : Nat) := by
      unfold deepStep
      split <;> (try simp only) <;> omega
    have := deepGo_range nm t (i + 1) (deepStep nm i st c) h3.1 h3.2
    simp only [deepGo, List.length_cons]
    omega
theorem deepF_range (l : List CutR) (nm : List UInt8) : -1 ≤ deepF l nm ∧ deepF l nm < l.length := by
  have := deepGo_range nm l 0 (-1, -1) (by decide) (by decide)
  unfold deepF
  omega
theorem deepGo_depth (nm : List UInt8) : ∀ (l : List CutR) (i : Nat) (st : Int × Int), -1 ≤ st.2 → -1 ≤ (deepGo nm i st l).2
  | [], i, st, h => h
  | c :: t, i, st, h => by
    refine deepGo_depth nm t (i + 1) _ ?_
    unfold deepStep depthS
    split <;> (try simp only) <;> omega
/-- A config, as far as ways go: each server's contexts, each a name and its cuts; and the highest cuts. -/
structure RtC where
  servers : List (List (ByteArray × List CutR))
  top : List CutR
def srvAt (c : RtC) (s : Int) : List (ByteArray × List CutR) := c.servers[s.toNat]?.getD []
def ctxCuts (l : List (ByteArray × List CutR)) : List CutR := l.map fun x => ⟨x.1, 0⟩
/-- The context of a server that a name is under, and which of its cuts. -/
def findF (c : RtC) (s : Int) (nm : List UInt8) : Int × Int :=
  if codeR (partsB nm) ≠ 0 ∨ s < 0 ∨ (c.servers.length : Int) ≤ s then (-1, -1)
  else if deepF (ctxCuts (srvAt c s)) nm < 0 then (-1, -1)
  else (deepF (ctxCuts (srvAt c s)) nm, deepF (((srvAt c s)[(deepF (ctxCuts (srvAt c s)) nm).toNat]?.map (·.2)).getD []) nm)
def heldF (c : RtC) (s : Int) (nm : List UInt8) : Int × Bool := if (findF c s nm).1 < 0 ∨ 0 ≤ (findF c s nm).2 then (0, false) else ((findF c s nm).1, true)
def nearF (c : RtC) (s : Int) (nm : List UInt8) : Int × Bool :=
  if codeR (partsB nm) ≠ 0 ∨ s < 0 ∨ (c.servers.length : Int) ≤ s then (0, false)
  else if 0 ≤ (findF c s nm).2 then ((((((srvAt c s)[(findF c s nm).1.toNat]?.map (·.2)).getD [])[(findF c s nm).2.toNat]?).map (·.server)).getD 0, true)
  else if 0 ≤ (findF c s nm).1 then (0, false)
  else if s ≠ 0 then (0, true)
  else if 0 ≤ deepF c.top nm then (((c.top[(deepF c.top nm).toNat]?).map (·.server)).getD 0, true)
  else (0, false)
/-- One step of a way: the end with its code, or the next server. -/
def stepF (held : Int → Bool) (near : Int → Int × Bool) (n : Int) (path : List Int) (s : Int) : Int ⊕ Int :=
  if held s then .inl 0 else if (near s).2 = false then .inl 32 else if (near s).1 < 0 ∨ n ≤ (near s).1 then .inl 52 else if (near s).1 ∈ path then .inl 54 else .inr (near s).1
def walkF (held : Int → Bool) (near : Int → Int × Bool) (n : Int) : Nat → List Int → Int → List Int × Int
  | 0, path, _ => (path, 54)
  | f + 1, path, s => match stepF held near n path s with
    | .inl c => (path, c)
    | .inr t => walkF held near n f (path ++ [t]) t
section
variable {held : Int → Bool} {near : Int → Int × Bool} {n : Int}
theorem walkF_inl {f : Nat} {path : List Int} {s c : Int} (h : stepF held near n path s = .inl c) : walkF held near n (f + 1) path s = (path, c) := by
  rw [walkF.eq_def]
  simp only [h]
theorem walkF_inr {f : Nat} {path : List Int} {s t : Int} (h : stepF held near n path s = .inr t) : walkF held near n (f + 1) path s = walkF held near n f (path ++ [t]) t := by
  rw [walkF.eq_def]
  simp only [h]
/-- Where the way goes on, each time as who is nearer says. -/
theorem walk_chain : ∀ (f : Nat) (pre : List Int) (s : Int), ∃ q, (walkF held near n f (pre ++ [s]) s).1 = pre ++ s :: q ∧ (∀ (i : Nat) a b, (s :: q)[i]? = some a → (s :: q)[i + 1]? = some b → near a = (b, true)) ∧
    ((walkF held near n f (pre ++ [s]) s).2 ≠ 54 → ∀ (f' : Nat) (pre' : List Int), f ≤ f' → (∀ x ∈ pre', x ∈ pre) → walkF held near n f' (pre' ++ [s]) s = (pre' ++ s :: q, (walkF held near n f (pre ++ [s]) s).2))
  | 0, pre, s => ⟨[], rfl, fun i a b ha hb => by simp at hb, fun h => absurd rfl h⟩
  | f + 1, pre, s => by
    cases hst : stepF held near n (pre ++ [s]) s with
    | inl c =>
      rw [walkF_inl hst]
      refine ⟨[], rfl, fun i a b ha hb => by simp at hb, fun h54 f' pre' hf hp => ?_⟩
      simp only at h54
      obtain ⟨f', rfl⟩ : ∃ g, f' = g + 1 := ⟨f' - 1, by omega⟩
      have : stepF held near n (pre' ++ [s]) s = .inl c := by
        unfold stepF at hst ⊢
        split
        · rename_i h; rw [if_pos h] at hst; exact hst
        · rename_i h
          rw [if_neg h] at hst
          split
          · rename_i h; rw [if_pos h] at hst; exact hst
          · rename_i h
            rw [if_neg h] at hst
            split
            · rename_i h; rw [if_pos h] at hst; exact hst
            · rename_i h
              rw [if_neg h] at hst
              split at hst
              · injection hst with hst; exact absurd hst.symm h54
              · cases hst
      rw [walkF_inl this]
    | inr t =>
      obtain ⟨q, h1, h2, h3⟩ := walk_chain f (pre ++ [s]) t
      rw [walkF_inr hst]
      have hn : near s = (t, true) ∧ t ∉ pre ++ [s] := by
        unfold stepF at hst
        split at hst
        · cases hst
        · split at hst
          · cases hst
          · rename_i hk
            split at hst
            · cases hst
            · split at hst
              · cases hst
              · rename_i hm
                injection hst with hst
                rw [hst] at hm
                refine ⟨Prod.ext hst (by simpa using hk), hm⟩
      refine ⟨t :: q, by rw [h1]; simp, fun i a b ha hb => ?_, fun h54 f' pre' hf hp => ?_⟩
      · cases i with
        | zero =>
          simp at ha hb
          subst ha hb
          exact hn.1
        | succ i => exact h2 i a b (by simpa using ha) (by simpa using hb)
      · obtain ⟨f', rfl⟩ : ∃ g, f' = g + 1 := ⟨f' - 1, by omega⟩
        have h4 : t ∉ pre' ++ [s] := fun hm => hn.2 (by
          rcases List.mem_append.1 hm with hm | hm
          · exact List.mem_append.2 (.inl (hp t hm))
          · exact List.mem_append.2 (.inr hm))
        have : stepF held near n (pre' ++ [s]) s = .inr t := by
          unfold stepF at hst ⊢
          split
          · rename_i h; rw [if_pos h] at hst; cases hst
          · rename_i h
            rw [if_neg h] at hst
            split
            · rename_i h; rw [if_pos h] at hst; cases hst
            · rename_i h
              rw [if_neg h] at hst
              split
              · rename_i h; rw [if_pos h] at hst; cases hst
              · rw [hn.1, if_neg h4]
        rw [walkF_inr this]
        have h5 := h3 h54 f' (pre' ++ [s]) (by omega) (fun x hx => by
          rcases List.mem_append.1 hx with hx | hx
          · exact List.mem_append.2 (.inl (hp x hx))
          · exact List.mem_append.2 (.inr hx))
        rw [h5]
        simp
/-- .. and from any server on it, it is what is left of it. -/
theorem walk_from : ∀ (f : Nat) (pre : List Int) (s : Int) (q : List Int) (code : Int), walkF held near n f (pre ++ [s]) s = (pre ++ s :: q, code) → code ≠ 54 → ∀ (i : Nat) a, (s :: q)[i]? = some a → ∀ f', f ≤ f' → walkF held near n f' [a] a = ((s :: q).drop i, code)
  | 0, pre, s, q, code, h, h54, i, a, ha, f', hf => by
    unfold walkF at h
    injection h with _ h
    exact absurd h.symm h54
  | f + 1, pre, s, q, code, h, h54, 0, a, ha, f', hf => by
    simp at ha
    subst ha
    obtain ⟨q', h1, -, h3⟩ := walk_chain (held := held) (near := near) (n := n) (f + 1) pre s
    rw [h] at h1 h3
    have e : q' = q := by
      have := List.append_cancel_left h1
      injection this with _ this
      exact this.symm
    subst e
    have := h3 h54 f' [] hf (by simp)
    simpa using this
  | f + 1, pre, s, q, code, h, h54, i + 1, a, ha, f', hf => by
    cases hst : stepF held near n (pre ++ [s]) s with
    | inl c =>
      rw [walkF_inl hst] at h
      injection h with h _
      have := List.append_cancel_left h
      injection this with _ this
      rw [← this] at ha
      simp at ha
    | inr t =>
      rw [walkF_inr hst] at h
      obtain ⟨q', h1, -, -⟩ := walk_chain (held := held) (near := near) (n := n) f (pre ++ [s]) t
      rw [h] at h1
      have e : q = t :: q' := by
        have h2 : pre ++ s :: q = pre ++ (s :: t :: q') := by simpa using h1
        have := List.append_cancel_left h2
        injection this with _ this
      subst e
      have h' : walkF held near n f ((pre ++ [s]) ++ [t]) t = ((pre ++ [s]) ++ t :: q', code) := by rw [h]; simp
      have := walk_from f (pre ++ [s]) t q' code h' h54 i a (by simpa using ha) f' (by omega)
      simpa using this
/-- Without a server twice on it, a way of n servers ends. -/
theorem walk_fuel : ∀ (f f' : Nat) (pre : List Int) (s : Int), (pre ++ [s]).Nodup → (∀ x ∈ pre ++ [s], 0 ≤ x ∧ x < n) → n.toNat + 1 ≤ f + (pre ++ [s]).length → n.toNat + 1 ≤ f' + (pre ++ [s]).length → walkF held near n f (pre ++ [s]) s = walkF held near n f' (pre ++ [s]) s
  | f, f', pre, s, hd, hr, hf, hf' => by
    have hlen : (pre ++ [s]).length ≤ n.toNat := by
      have hsub : (pre ++ [s]).map Int.toNat ⊆ List.range n.toNat := by
        intro x hx
        obtain ⟨y, hy, rfl⟩ := List.mem_map.1 hx
        have := hr y hy
        rw [List.mem_range]
        omega
      have hnd : ((pre ++ [s]).map Int.toNat).Nodup := by
        unfold List.Nodup at hd ⊢
        rw [List.pairwise_map]
        exact List.Pairwise.imp_of_mem (fun ha hb hab e => hab (by have := hr _ ha; have := hr _ hb; omega)) hd
      have h2 := List.Nodup.length_le_of_subset hnd hsub
      rw [List.length_map, List.length_range] at h2
      exact h2
    obtain ⟨f, rfl⟩ : ∃ g, f = g + 1 := ⟨f - 1, by omega⟩
    obtain ⟨f', rfl⟩ : ∃ g, f' = g + 1 := ⟨f' - 1, by omega⟩
    cases hst : stepF held near n (pre ++ [s]) s with
    | inl c => rw [walkF_inl hst, walkF_inl hst]
    | inr t =>
      rw [walkF_inr hst, walkF_inr hst]
      have hn : t ∉ pre ++ [s] ∧ 0 ≤ t ∧ t < n := by
        unfold stepF at hst
        split at hst
        · cases hst
        · split at hst
          · cases hst
          · split at hst
            · cases hst
            · rename_i hr
              split at hst
              · cases hst
              · rename_i hm
                injection hst with hst
                rw [hst] at hm hr
                exact ⟨hm, by omega, by omega⟩
      refine walk_fuel f f' (pre ++ [s]) t ?_ ?_ (by simp at hf ⊢; omega) (by simp at hf' ⊢; omega)
      · rw [List.nodup_append]
        exact ⟨hd, by simp, fun a ha b hb => by simp at hb; subst hb; rintro rfl; exact hn.1 ha⟩
      · intro x hx
        rcases List.mem_append.1 hx with hx | hx
        · exact hr x hx
        · simp at hx; subst hx; exact hn.2
end
/-- The way to who holds a name, and its code. -/
def pathF (c : RtC) (s : Int) (nm : List UInt8) : List Int × Int :=
  if codeR (partsB nm) ≠ 0 then ([], 34)
  else if s < 0 ∨ (c.servers.length : Int) ≤ s then ([], 1)
  else walkF (fun s => (heldF c s nm).2) (fun s => nearF c s nm) c.servers.length (c.servers.length + 1) [s] s
end Go.Proofs.YtlckfnchabfcaaaGreatDoor
/- An entry, as it lies in memory. -/
namespace Go.Proofs.YtlckfnchabfcaaaGreatDoor
open Go.RowKit

/-- An entry. -/
structure Ent where
  name : ByteArray
  atts : List Att
def Elem.ent : Elem Ent :=
  ⟨2, by decide, fun S w v a => ∃ A n c, v = [.string a.name, .slice A n c] ∧ Row Elem.att S w A n c a.atts, fun ⟨_, _, _, h, _⟩ => by rw [h]; rfl, fun ⟨A, n, c, h, hr⟩ hk => ⟨A, n, c, h, hr.same hk⟩, fun ⟨A, n, c, h, hr⟩ hs => ⟨A, n, c, h, hr.mono hs⟩⟩
end Go.Proofs.YtlckfnchabfcaaaGreatDoor
/- What the bound of an '..UptoSaid' gives: after the page's own lemmas. -/
namespace Go.Proofs.YtlckfnchabfcaaaGreatDoor.bulks

theorem one_le {H : Type} (d : DataW H) : 1 ≤ Rows.uptoBulk d := by
  cases d with
  | lit l => cases l <;> simp [Rows.uptoBulk]
  | nil => simp [Rows.uptoBulk]
  | ptr d => simp [Rows.uptoBulk]
  | slice elems spare => simp [Rows.uptoBulk]
  | agg parts => simp [Rows.uptoBulk]
  | iface t d => simp [Rows.uptoBulk]
  | map entries => simp [Rows.uptoBulk]
  | held h => simp [Rows.uptoBulk]
theorem part_le {H : Type} {d : DataW H} {l : List (DataW H)} (h : d ∈ l) : Rows.uptoBulk d ≤ Rows.uptoBulkAll l := by
  induction l with
  | nil => cases h
  | cons x r ih =>
    simp only [Rows.uptoBulkAll]
    cases List.mem_cons.1 h with
    | inl e => subst e; omega
    | inr e => have := ih e; omega
theorem length_le {H : Type} (l : List (DataW H)) : l.length ≤ Rows.uptoBulkAll l := by
  induction l with
  | nil => simp [Rows.uptoBulkAll]
  | cons x r ih => have := one_le x; simp only [Rows.uptoBulkAll, List.length_cons]; omega
theorem slice_le {H : Type} (elems spare : List (DataW H)) : elems.length + spare.length + 1 ≤ Rows.uptoBulk (.slice elems spare) := by
  have h1 := length_le elems
  have h2 := length_le spare
  simp only [Rows.uptoBulk]
  omega
theorem slice_elems {H : Type} (elems spare : List (DataW H)) : Rows.uptoBulkAll elems + 1 ≤ Rows.uptoBulk (.slice elems spare) := by
  simp only [Rows.uptoBulk]
  omega
theorem bound {H : Type} {l : List (DataW H)} (hk : Rows.uptoSmall H l = true) : Rows.uptoBulkAll l ≤ 1048576 := of_decide_eq_true hk
/-- A slice among the arguments, by its place. -/
theorem slice_at {H : Type} {l : List (DataW H)} (hk : Rows.uptoSmall H l = true) {elems spare : List (DataW H)} (h : DataW.slice elems spare ∈ l) : elems.length + spare.length ≤ 1048575 := by
  have h1 := part_le h
  have h2 := bound hk
  have h3 := slice_le elems spare
  omega
end Go.Proofs.YtlckfnchabfcaaaGreatDoor.bulks
