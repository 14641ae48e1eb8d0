/- The walk of slices.Reverse at bytes. -/
import Derived.Test.YtabaeiolpbdjnaaMem
import Derived.Laws.OwnMore
namespace Go.Proofs.Ytabaeiolpbdjnaa
open Go.RowKit
set_option maxRecDepth 100000

def swp (xs : List UInt8) (k : Nat) : List UInt8 := (List.range xs.length).map fun j => if j < k ∨ xs.length - k ≤ j then xs[xs.length - 1 - j]?.getD 0 else xs[j]?.getD 0
theorem swp_length (xs : List UInt8) (k : Nat) : (swp xs k).length = xs.length := by simp [swp]
theorem swp_get (xs : List UInt8) (k j : Nat) (h : j < xs.length) : (swp xs k)[j]? = some (if j < k ∨ xs.length - k ≤ j then xs[xs.length - 1 - j]?.getD 0 else xs[j]?.getD 0) := by
  simp [swp, h]
theorem swp_zero (xs : List UInt8) : swp xs 0 = xs := by
  apply List.ext_getElem?
  intro j
  by_cases h : j < xs.length
  · rw [swp_get _ _ _ h, if_neg (by omega)]; simp [h]
  · rw [List.getElem?_eq_none (by rw [swp_length]; omega), List.getElem?_eq_none (by omega)]
theorem swp_all (xs : List UInt8) (k : Nat) (h : xs.length ≤ 2 * k + 1) : swp xs k = xs.reverse := by
  apply List.ext_getElem?
  intro j
  by_cases hj : j < xs.length
  · rw [swp_get _ _ _ hj, List.getElem?_reverse hj]
    have h1 : xs.length - 1 - j < xs.length := by omega
    by_cases hc : j < k ∨ xs.length - k ≤ j
    · rw [if_pos hc]; simp [h1]
    · rw [if_neg hc, show xs.length - 1 - j = j by omega]; simp [hj]
  · rw [List.getElem?_eq_none (by rw [swp_length]; omega), List.getElem?_eq_none (by simp; omega)]
theorem swp_step (xs : List UInt8) (k : Nat) (h : 2 * k + 1 < xs.length) :
    ((swp xs k).set k (xs[xs.length - 1 - k]?.getD 0)).set (xs.length - 1 - k) (xs[k]?.getD 0) = swp xs (k + 1) := by
  apply List.ext_getElem?
  intro j
  by_cases hj : j < xs.length
  · rw [swp_get _ _ _ hj]
    by_cases h1 : j = xs.length - 1 - k
    · subst h1
      rw [List.getElem?_set_self (by simp [swp_length]; omega), if_pos (by omega)]
      congr 3; omega
    · rw [List.getElem?_set_ne (by omega)]
      by_cases h2 : j = k
      · subst h2
        rw [List.getElem?_set_self (by simp [swp_length]; omega), if_pos (by omega)]
      · rw [List.getElem?_set_ne (by omega), swp_get _ _ _ hj]
        by_cases h3 : j < k ∨ xs.length - k ≤ j
        · rw [if_pos h3, if_pos (by omega)]
        · rw [if_neg h3, if_neg (by omega)]
  · rw [List.getElem?_eq_none (by simp [swp_length]; omega), List.getElem?_eq_none (by rw [swp_length]; omega)]

theorem reverse_any (base : Nat) (v : Value) (n : Nat) (xs : List UInt8) (w : World) (hown : w.ownsRow base 5 1 v n (xs.map bv)) :
    Calls Try.prog 75 #[v] w fun e w' => e = .returned (.tuple #[]) ∧ w'.ownsRow base 5 1 v n (xs.reverse.map bv) ∧ w.grownBy w' v.ownBlock := by
  have hn : Hid (n = xs.length) := by simpa [Hid] using hown.1.symm
  rcases hown.2 with ⟨rfl, rfl⟩ | ⟨g, cap, cur, rfl, hbg, hg, hnc, hcm, hcs, htake⟩
  · have hx : xs = [] := List.eq_nil_of_length_eq_zero hn.out.symm
    subst hx
    clear hn
    go_enter Try.func75, Try.ntmps75
    go_wp2
    refine wp_loop_once ?_
    go_wp2
    go_end0
    exact ⟨rfl, World.ownsRow_nil _ _ _ _, World.grownBy.refl w _⟩
  · have hcl : n ≤ 9223372036854775807 := by simp only [maxLen] at hcm; omega
    clear hg htake hcs hcm
    go_enter Try.func75, Try.ntmps75
    go_wp2
    go_loopw [2, 3] (fun i j wr => ∃ k : Nat, 2 * k ≤ n ∧ i = .int .i64 k ∧ j = .int .i64 ((n : Int) - 1 - k) ∧ wr.ownsRow base 5 1 (.slice (some ⟨g, 0, none⟩) n cap) n ((swp xs k).map bv) ∧ w.grownBy wr (some g)) (fun i _ _ => n - 2 * (intOf i).toNat)
    case atStart => exact ⟨0, by omega, rfl, by simp, by rw [swp_zero]; exact hown, World.grownBy.refl w _⟩
    case round =>
      obtain ⟨k, hk, rfl, rfl, ho, hgr⟩ := hrel
      by_cases hlt : 2 * k + 1 < n
      · have c1 : wr.cell? ⟨g, k, none⟩ = some (.int .u8 ((xs[k]?.getD 0).toNat : Int)) := by
          rw [ho.cellAt k (by omega), List.getElem?_map, swp_get _ _ _ (by have := hn.out; omega), if_neg (by have := hn.out; omega)]; rfl
        have c2 : wr.cell? ⟨g, n - 1 - k, none⟩ = some (.int .u8 ((xs[n - 1 - k]?.getD 0).toNat : Int)) := by
          rw [ho.cellAt _ (by omega), List.getElem?_map, swp_get _ _ _ (by have := hn.out; omega), if_neg (by have := hn.out; omega)]; rfl
        have f1 := ho.frozenAt k
        have f2 := ho.frozenAt (n - 1 - k)
        go_wp2
        go_region
        go_wp2
        go_roundw
        case rel =>
          have s1 := (ho.stored k (bv (xs[n - 1 - k]?.getD 0)))
          have s2 := s1.1.stored (n - 1 - k) (bv (xs[k]?.getD 0))
          refine ⟨k + 1, by omega, by go_num, by go_num, ?_, ⟨(hgr.trans (s1.2.trans s2.2)).os, (hgr.trans (s1.2.trans s2.2)).tape, (hgr.trans (s1.2.trans s2.2)).output, (hgr.trans (s1.2.trans s2.2)).size, (hgr.trans (s1.2.trans s2.2)).block⟩⟩
          have := s2.1
          rw [← List.map_set, ← List.map_set, hn.out, swp_step xs k (by have := hn.out; omega), ← hn.out] at this
          exact this
        case measure => simp [intOf]; omega
      · go_wp2
        go_end0
        refine ⟨rfl, ?_, hgr⟩
        rw [← swp_all xs k (by have := hn.out; omega)]
        exact ho
end Go.Proofs.Ytabaeiolpbdjnaa
