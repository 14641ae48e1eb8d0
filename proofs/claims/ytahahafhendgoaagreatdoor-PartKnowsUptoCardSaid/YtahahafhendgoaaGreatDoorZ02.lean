/- Lemmas of the walk that the last text of this claim joins. -/
import Derived.Test.YtahahafhendgoaaGreatDoorZ01
set_option maxHeartbeats 40000000
set_option linter.unusedVariables false
set_option linter.unusedSimpArgs false
namespace Go.Proofs.YtahahafhendgoaaGreatDoor
def splitSp (cur : List UInt8) : List UInt8 → List (List UInt8)
 | []=>[cur]
 | c :: t=>if c = 32 then cur :: splitSp [] t else splitSp (cur ++ [c]) t
def joinSp : List (List UInt8) → List UInt8
 | []=>[]
 | [x]=>x
 | x :: y :: t=>x ++ 32 :: joinSp (y :: t)
def wordsB (l : List UInt8) : List (List UInt8):=(splitSp [] l).filter (fun x=>decide (x ≠ []))
def refSq (out : List UInt8) (gap : Bool) : List UInt8 → List UInt8
 | []=>out
 | c :: t=>if c = 32 then refSq out true t else refSq ((if gap && decide (out ≠ []) then out ++ [32] else out) ++ [c]) false t
theorem joinSp_snoc (ws : List (List UInt8)) (x : List UInt8) (h : ws ≠ []) : joinSp (ws ++ [x]) = joinSp ws ++ 32 :: x:=by
 induction ws with
 | nil=>exact absurd rfl h
 | cons y t ih=>
  cases t with
  | nil=>rfl
  | cons z t=>
   have h1:=ih (by simp)
   simp only [List.cons_append,joinSp] at h1 ⊢
   rw [h1]
   simp
theorem joinSp_grow (ws : List (List UInt8)) (x : List UInt8) (c : UInt8) : joinSp (ws ++ [x ++ [c]]) = joinSp (ws ++ [x]) ++ [c]:=by
 by_cases h : ws = []
 ·subst h
  rfl
 ·rw [joinSp_snoc ws _ h,joinSp_snoc ws _ h]
  simp
theorem joinSp_ne (ws : List (List UInt8)) (h : ws ≠ []) (hn : ∀ x ∈ ws,x ≠ []) : joinSp ws ≠ []:=by
 cases ws with
 | nil=>exact absurd rfl h
 | cons x t=>
  have hx:=hn x (by simp)
  cases t with
  | nil=>exact hx
  | cons y t=>simp [joinSp]
theorem refSq_words (l : List UInt8) : ∀ (ws : List (List UInt8)),(∀ x ∈ ws,x ≠ []) →
 (∀ cur,cur ≠ [] → refSq (joinSp (ws ++ [cur])) false l = joinSp (ws ++ (splitSp cur l).filter (fun x=>decide (x ≠ [])))) ∧
 (∀ gap,(gap = true ∨ ws = []) → refSq (joinSp ws) gap l = joinSp (ws ++ (splitSp [] l).filter (fun x=>decide (x ≠ [])))):=by
 induction l with
 | nil=>
  intro ws hw
  refine ⟨fun cur hc=>?_,fun gap _=>?_⟩
  ·simp [refSq,splitSp,hc]
  ·simp [refSq,splitSp]
 | cons c t ih=>
  intro ws hw
  refine ⟨fun cur hc=>?_,fun gap hg=>?_⟩
  ·by_cases h : c = 32
   ·have h1:=(ih (ws ++ [cur]) (by intro x hx;rcases List.mem_append.1 hx with h2 | h2;exact hw x h2;simp at h2;rw [h2];exact hc)).2 true (.inl rfl)
    simp only [refSq,splitSp,h,if_true] at h1 ⊢
    rw [h1]
    simp [hc]
   ·have h1:=(ih ws hw).1 (cur ++ [c]) (by simp)
    simp only [refSq,splitSp,h,if_false,Bool.false_and,Bool.false_eq_true] at h1 ⊢
    rw [← h1,joinSp_grow]
  ·by_cases h : c = 32
   ·have h1:=(ih ws hw).2 true (.inl rfl)
    simp only [refSq,splitSp,h,if_true] at h1 ⊢
    rw [h1]
    simp
   ·have h1:=(ih ws hw).1 [c] (by simp)
    simp only [refSq,splitSp,h,if_false,List.nil_append] at h1 ⊢
    rw [← h1]
    congr 1
    by_cases hws : ws = []
    ·subst hws
     simp [joinSp]
    ·have hgt : gap = true:=by rcases hg with hg | hg;exact hg;exact absurd hg hws
     have hne:=joinSp_ne ws hws hw
     rw [joinSp_snoc ws _ hws,hgt]
     simp [hne]
theorem words_same (l : List UInt8) : refSq [] false l = joinSp (wordsB l):=(refSq_words l [] (by simp)).2 false (.inr rfl)
theorem mem_joinSp (z : UInt8) (hz : z ≠ 32) : ∀ ws : List (List UInt8),z ∈ joinSp ws ↔ ∃ x ∈ ws,z ∈ x
 | []=>by simp [joinSp]
 | [x]=>by simp [joinSp]
 | x :: y :: t=>by
  have h:=mem_joinSp z hz (y :: t)
  simp only [joinSp,List.mem_append,List.mem_cons,h,hz,false_or]
  simp
theorem mem_splitSp (z : UInt8) (hz : z ≠ 32) : ∀ (l cur : List UInt8),(∃ x ∈ splitSp cur l,z ∈ x) ↔ z ∈ cur ∨ z ∈ l
 | [],cur=>by simp [splitSp]
 | c :: t,cur=>by
  by_cases h : c = 32
  ·have h1:=mem_splitSp z hz t []
   simp only [splitSp,h,if_true]
   simp only [List.mem_cons,exists_eq_or_imp,h1]
   simp [hz]
  ·have h1:=mem_splitSp z hz t (cur ++ [c])
   simp only [splitSp,h,if_false]
   rw [h1]
   simp [or_assoc]
theorem mem_words (z : UInt8) (hz : z ≠ 32) (l : List UInt8) : z ∈ joinSp (wordsB l) ↔ z ∈ l:=by
 rw [mem_joinSp z hz]
 have h:=mem_splitSp z hz l []
 constructor
 ·rintro ⟨x,hx,hzx⟩
  have:=h.1 ⟨x,(List.mem_filter.1 hx).1,hzx⟩
  simpa using this
 ·intro hl
  obtain ⟨x,hx,hzx⟩:=h.2 (.inr hl)
  exact ⟨x,List.mem_filter.2 ⟨hx,by simp;rintro rfl;simp at hzx⟩,hzx⟩
end Go.Proofs.YtahahafhendgoaaGreatDoor
