/- Lemmas of the walk. -/
import Derived.Test.YtioglicfndkgiaaGreatDoorV13
import Derived.Test.YtioglicfndkgiaaGreatDoorV30
import Derived.Test.YtioglicfndkgiaaGreatDoorV25
set_option maxHeartbeats 40000000
set_option linter.unusedVariables false
set_option linter.unusedSimpArgs false
namespace Go.Proofs.YtioglicfndkgiaaGreatDoor
def Good (x : List UInt8) : Prop:=∃ p,zan p = true ∧ x = zaX (za6 p)
theorem zkj : ∀ {l : List (List UInt8)},(∀ x ∈ l,Good x) → ∃ k : List (List Ava),l = k.map (fun p=>zaX (za6 p)) ∧ ∀ p ∈ k,zan p = true
 | [],_=>⟨[],rfl,by simp⟩
 | x :: t,h=>by
  obtain ⟨k,h1,h2⟩:=zkj (l:=t) fun y hy=>h y (by simp [hy])
  obtain ⟨p,h3,h4⟩:=h x (by simp)
  refine ⟨p :: k,by rw [h1,h4];rfl,fun q hq=>?_⟩
  rcases List.mem_cons.1 hq with e | e
  ·rw [e];exact h3
  ·exact h2 q e
theorem zmV {l : List (List UInt8)} (hg : ∀ x ∈ l,Good x) (h12 : l.length ≤ 12) (h1k : (zaW l).length ≤ 1000) : zaf (zaW l) = .ok l:=by
 by_cases hz : l = []
 ·subst hz;rfl
 obtain ⟨k,hl,hf⟩:=zkj hg
 have hn : ∀ q ∈ k.map za6,zan q = true:=by
  intro q hq
  obtain ⟨p,hp,rfl⟩:=List.mem_map.1 hq
  exact zb9 (hf p hp)
 have hl2 : l = (k.map za6).map zaX:=by rw [hl,List.map_map];rfl
 have hcl : ∀ x ∈ l,clos 44 x = true:=by
  intro x hx
  rw [hl2] at hx
  obtain ⟨q,hq,rfl⟩:=List.mem_map.1 hx
  have:=hn q hq
  unfold zan at this
  rw [Bool.and_eq_true,Bool.and_eq_true] at this
  exact zeN q (List.all_eq_true.1 this.1.2)
 have hsp:=zeQ l hz hcl
 have hjn : zaW l ≠ []:=by
  cases hk : l with
  | nil=>exact absurd hk hz
  | cons x t=>
   refine zlE ?_
   have hx : x ∈ (k.map za6).map zaX:=by rw [← hl2,hk];simp
   obtain ⟨q,hq,rfl⟩:=List.mem_map.1 hx
   exact zjt (by rintro rfl;have:=hn _ hq;cases this)
 unfold zaf
 rw [if_neg (by omega),if_neg hjn,hsp,if_neg (by omega)]
 have hmm : l.mapM zbf = some (k.map za6):=by
  rw [hl2]
  exact zfn fun q hq=>zhc (hn q hq)
 rw [hmm]
 have e2 : (k.map za6).map (fun p=>zbY (za6 p)) = l:=by
  rw [hl2]
  refine List.map_congr_left fun q hq=>?_
  obtain ⟨p,hp,rfl⟩:=List.mem_map.1 hq
  have hfp:=hf p hp
  have ha : p.all zbD = true:=by
   unfold zan at hfp
   rw [Bool.and_eq_true,Bool.and_eq_true] at hfp
   exact hfp.1.2
  rw [(zeX ha).1]
  unfold zbY
  rw [if_pos (zb9 hfp)]
 simp only [e2]
 rw [if_neg (by omega)]
theorem zmh {s : List UInt8} {l : List (List UInt8)} (h : zaf s = .ok l) : (∀ x ∈ l,Good x) ∧ l.length ≤ 12 ∧ (zaW l).length ≤ 1000:=by
 unfold zaf at h
 by_cases h1 : 1000 < s.length
 ·rw [if_pos h1] at h;cases h
 rw [if_neg h1] at h
 by_cases h2 : s = []
 ·rw [if_pos h2] at h
  injection h with h
  subst h
  simp [zaW]
 rw [if_neg h2] at h
 by_cases h3 : 12 < (splitF 44 [] s).length
 ·rw [if_pos h3] at h;cases h
 rw [if_neg h3] at h
 cases hm : (splitF 44 [] s).mapM zbf with
 | none=>rw [hm] at h;cases h
 | some k=>
  rw [hm] at h
  simp only at h
  by_cases h4 : 1000 < (zaW (k.map fun p=>zbY (za6 p))).length
  ·rw [if_pos h4] at h;cases h
  rw [if_neg h4] at h
  injection h with h
  obtain ⟨hk1,hk2⟩:=zgo hm
  have hf : ∀ p ∈ k,zan p = true:=fun p hp=>by obtain ⟨a,-,ha⟩:=hk1 p hp;exact zfs ha
  refine ⟨fun x hx=>?_,by rw [← h,List.length_map];omega,by rw [← h];omega⟩
  rw [← h] at hx
  obtain ⟨p,hp,rfl⟩:=List.mem_map.1 hx
  refine ⟨p,hf p hp,?_⟩
  unfold zbY
  rw [if_pos (zb9 (hf p hp))]
theorem zq1 {s : List UInt8} (h : zaD (zaf s) = 0) : zaf s = .ok (okL (zaf s)):=by
 cases hp : zaf s with
 | ok l=>rfl
 | error e=>rw [hp] at h;cases e <;> simp [zaD] at h
theorem zf3 {s : List UInt8} (h : zaD (zaf s) = 0) : zaf (zaR s).1 = .ok (okL (zaf s)).tail:=by
 obtain ⟨h1,h2,h3⟩:=zmh (zq1 h)
 unfold zaR
 cases hl : okL (zaf s) with
 | nil=>rfl
 | cons x t=>
  rw [hl] at h1 h2 h3
  exact zmV (fun y hy=>h1 y (by simp [hy])) (by simp at h2;omega) (Nat.le_trans (zhe x t) h3)
end Go.Proofs.YtioglicfndkgiaaGreatDoor
