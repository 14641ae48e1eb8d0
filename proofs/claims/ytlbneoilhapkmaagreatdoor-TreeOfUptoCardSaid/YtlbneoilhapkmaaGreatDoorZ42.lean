/- Lemmas of the walk that the last text of this claim joins. -/
import Derived.Test.YtlbneoilhapkmaaGreatDoorZ12
import Derived.Test.YtlbneoilhapkmaaGreatDoorZ39
import Derived.Test.YtlbneoilhapkmaaGreatDoorZ30
set_option maxHeartbeats 40000000
set_option linter.unusedVariables false
set_option linter.unusedSimpArgs false
namespace Go.Proofs.YtlbneoilhapkmaaGreatDoor
def Good (x : List UInt8) : Prop:=∃ p,formedA p = true ∧ x = printF (normA p)
theorem good_list : ∀ {l : List (List UInt8)},(∀ x ∈ l,Good x) → ∃ k : List (List Ava),l = k.map (fun p=>printF (normA p)) ∧ ∀ p ∈ k,formedA p = true
 | [],_=>⟨[],rfl,by simp⟩
 | x :: t,h=>by
  obtain ⟨k,h1,h2⟩:=good_list (l:=t) fun y hy=>h y (by simp [hy])
  obtain ⟨p,h3,h4⟩:=h x (by simp)
  refine ⟨p :: k,by rw [h1,h4];rfl,fun q hq=>?_⟩
  rcases List.mem_cons.1 hq with e | e
  ·rw [e];exact h3
  ·exact h2 q e
theorem parts_good {l : List (List UInt8)} (hg : ∀ x ∈ l,Good x) (h12 : l.length ≤ 12) (h1k : (joinC l).length ≤ 1000) : partsB (joinC l) = .ok l:=by
 by_cases hz : l = []
 ·subst hz;rfl
 obtain ⟨k,hl,hf⟩:=good_list hg
 have hn : ∀ q ∈ k.map normA,formedA q = true:=by
  intro q hq
  obtain ⟨p,hp,rfl⟩:=List.mem_map.1 hq
  exact normA_formed (hf p hp)
 have hl2 : l = (k.map normA).map printF:=by rw [hl,List.map_map];rfl
 have hcl : ∀ x ∈ l,clos 44 x = true:=by
  intro x hx
  rw [hl2] at hx
  obtain ⟨q,hq,rfl⟩:=List.mem_map.1 hx
  have:=hn q hq
  unfold formedA at this
  rw [Bool.and_eq_true,Bool.and_eq_true] at this
  exact printF_clos q (List.all_eq_true.1 this.1.2)
 have hsp:=joinC_split l hz hcl
 have hjn : joinC l ≠ []:=by
  cases hk : l with
  | nil=>exact absurd hk hz
  | cons x t=>
   refine joinC_ne ?_
   have hx : x ∈ (k.map normA).map printF:=by rw [← hl2,hk];simp
   obtain ⟨q,hq,rfl⟩:=List.mem_map.1 hx
   exact printF_ne (by rintro rfl;have:=hn _ hq;cases this)
 unfold partsB
 rw [if_neg (by omega),if_neg hjn,hsp,if_neg (by omega)]
 have hmm : l.mapM partB = some (k.map normA):=by
  rw [hl2]
  exact mapM_some fun q hq=>partB_print (hn q hq)
 rw [hmm]
 have e2 : (k.map normA).map (fun p=>printB (normA p)) = l:=by
  rw [hl2]
  refine List.map_congr_left fun q hq=>?_
  obtain ⟨p,hp,rfl⟩:=List.mem_map.1 hq
  have hfp:=hf p hp
  have ha : p.all avaOk = true:=by
   unfold formedA at hfp
   rw [Bool.and_eq_true,Bool.and_eq_true] at hfp
   exact hfp.1.2
  rw [(normA_again ha).1]
  unfold printB
  rw [if_pos (normA_formed hfp)]
 simp only [e2]
 rw [if_neg (by omega)]
theorem good_parts {s : List UInt8} {l : List (List UInt8)} (h : partsB s = .ok l) : (∀ x ∈ l,Good x) ∧ l.length ≤ 12 ∧ (joinC l).length ≤ 1000:=by
 unfold partsB at h
 by_cases h1 : 1000 < s.length
 ·rw [if_pos h1] at h;cases h
 rw [if_neg h1] at h
 by_cases h2 : s = []
 ·rw [if_pos h2] at h
  injection h with h
  subst h
  simp [joinC]
 rw [if_neg h2] at h
 by_cases h3 : 12 < (splitF 44 [] s).length
 ·rw [if_pos h3] at h;cases h
 rw [if_neg h3] at h
 cases hm : (splitF 44 [] s).mapM partB with
 | none=>rw [hm] at h;cases h
 | some k=>
  rw [hm] at h
  simp only at h
  by_cases h4 : 1000 < (joinC (k.map fun p=>printB (normA p))).length
  ·rw [if_pos h4] at h;cases h
  rw [if_neg h4] at h
  injection h with h
  obtain ⟨hk1,hk2⟩:=mapM_src hm
  have hf : ∀ p ∈ k,formedA p = true:=fun p hp=>by obtain ⟨a,-,ha⟩:=hk1 p hp;exact partB_formedN ha
  refine ⟨fun x hx=>?_,by rw [← h,List.length_map];omega,by rw [← h];omega⟩
  rw [← h] at hx
  obtain ⟨p,hp,rfl⟩:=List.mem_map.1 hx
  refine ⟨p,hf p hp,?_⟩
  unfold printB
  rw [if_pos (normA_formed (hf p hp))]
theorem code_ok {s : List UInt8} (h : codeR (partsB s) = 0) : partsB s = .ok (okL (partsB s)):=by
 cases hp : partsB s with
 | ok l=>rfl
 | error e=>rw [hp] at h;cases e <;> simp [codeR] at h
theorem parent_parts {s : List UInt8} (h : codeR (partsB s) = 0) : partsB (parentS s).1 = .ok (okL (partsB s)).tail:=by
 obtain ⟨h1,h2,h3⟩:=good_parts (code_ok h)
 unfold parentS
 cases hl : okL (partsB s) with
 | nil=>rfl
 | cons x t=>
  rw [hl] at h1 h2 h3
  exact parts_good (fun y hy=>h1 y (by simp [hy])) (by simp at h2;omega) (Nat.le_trans (join_tail x t) h3)
theorem normal_of {s : List UInt8} {l : List (List UInt8)} (h : partsB s = .ok l) : codeR (partsB s) = 0 ∧ normalS s = joinC l:=by
 unfold normalS
 rw [h]
 exact ⟨rfl,rfl⟩
theorem parent_normal {s : List UInt8} (h : codeR (partsB s) = 0) : codeR (partsB (parentS s).1) = 0 ∧ normalS (parentS s).1 = (parentS s).1:=by
 obtain ⟨h1,h2⟩:=normal_of (parent_parts h)
 refine ⟨h1,?_⟩
 rw [h2]
 unfold parentS
 cases hl : okL (partsB s) with
 | nil=>rfl
 | cons x t=>rfl
end Go.Proofs.YtlbneoilhapkmaaGreatDoor
