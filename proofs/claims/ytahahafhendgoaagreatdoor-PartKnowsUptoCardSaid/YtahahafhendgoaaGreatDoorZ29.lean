/- Lemmas of the walk that the last text of this claim joins. -/
import Derived.Test.YtahahafhendgoaaGreatDoorZ28
import Derived.BigQuiet
import Derived.Deep.QuietTactic
set_option maxHeartbeats 40000000
set_option linter.unusedVariables false
set_option linter.unusedSimpArgs false
namespace Go.Proofs.YtahahafhendgoaaGreatDoor
open Go.RowKit
set_option maxRecDepth 100000
theorem take_eq_all {α : Type} {l l' : List α} {n : Nat} (h1 : n = l.length) (h2 : n = l'.length) (h : l.take n = l'.take n) : l = l':=by
 rwa [List.take_of_length_le (by omega),List.take_of_length_le (by omega)] at h
theorem CellsIn.drop {S : Nat → Prop} {w : World} {A : Option Addr} {vs : List Value} (h : CellsIn S w A vs) (k : Nat) : CellsIn S w (A.map (·.add k)) (vs.drop k):=by
 rcases h with h | ⟨b,off,hA,hS,hc⟩
 ·exact .inl (by simp [h])
 ·refine .inr ⟨b,off + k,by simp [hA,addr_add],hS,fun j u hj=>?_⟩
  rw [List.getElem?_drop] at hj
  rw [Nat.add_assoc]
  exact hc _ u hj
theorem CellsIn.take {S : Nat → Prop} {w : World} {A : Option Addr} {vs : List Value} (h : CellsIn S w A vs) (k : Nat) : CellsIn S w A (vs.take k):=by
 rcases h with h | ⟨b,off,hA,hS,hc⟩
 ·exact .inl (by simp [h])
 ·refine .inr ⟨b,off,hA,hS,fun j u hj=>hc j u ?_⟩
  rw [List.getElem?_take] at hj
  split at hj
  ·exact hj
  ·cases hj
theorem flatten_drop {K : Nat} : ∀ {vss : List (List Value)} (k : Nat),(∀ v ∈ vss,v.length = K) → (vss.drop k).flatten = vss.flatten.drop (k * K)
 | [],k,_=>by simp
 | v :: vss,0,_=>by simp
 | v :: vss,k + 1,h=>by
  have h0:=h v (by simp)
  have hd : v.drop ((k + 1) * K) = []:=List.drop_eq_nil_of_le (by rw [h0,Nat.succ_mul];omega)
  rw [List.drop_succ_cons,flatten_drop k (fun u hu=>h u (by simp [hu])),List.flatten_cons,List.drop_append,hd,h0,List.nil_append]
  congr 1
  rw [Nat.succ_mul];omega
theorem flatten_take {K : Nat} : ∀ {vss : List (List Value)} (k : Nat),(∀ v ∈ vss,v.length = K) → (vss.take k).flatten = vss.flatten.take (k * K)
 | [],k,_=>by simp
 | v :: vss,0,_=>by simp
 | v :: vss,k + 1,h=>by
  have h0:=h v (by simp)
  have hd : v.take ((k + 1) * K) = v:=List.take_of_length_le (by rw [h0,Nat.succ_mul];omega)
  rw [List.take_succ_cons,List.flatten_cons,flatten_take k (fun u hu=>h u (by simp [hu])),List.flatten_cons,List.take_append,hd,h0]
  congr 2
  rw [Nat.succ_mul];omega
section
variable {α : Type} {E : Elem α} {S : Nat → Prop} {w : World} {A : Option Addr} {n c : Nat} {l : List α}
theorem Row.lens {vss : List (List Value)} (h1 : n = l.length) (h4 : vss.length = n) (h6 : ∀ (i : Nat) v x,vss[i]? = some v → l[i]? = some x → E.R S w v x) : ∀ v ∈ vss,v.length = E.k:=by
 intro v hv
 obtain ⟨j,hj,rfl⟩:=List.mem_iff_getElem.1 hv
 exact E.len (h6 j vss[j] (l[j]'(by omega)) (List.getElem?_eq_getElem hj) (List.getElem?_eq_getElem (by omega)))
theorem Row.tail (h : Row E S w A n c l) {k : Nat} (hk : k ≤ n) : Row E S w (cutA A k c E.k) (n - k) (c - k) (l.drop k):=by
 obtain ⟨h1,h2,h3,vss,h4,h5,h6⟩:=h
 refine ⟨by rw [List.length_drop,h1],by omega,by omega,vss.drop k,by rw [List.length_drop,h4],?_,fun i v x hi hx=>h6 (k + i) v x (by rwa [List.getElem?_drop] at hi) (by rwa [List.getElem?_drop] at hx)⟩
 rw [flatten_drop k (Row.lens h1 h4 h6)]
 unfold cutA
 split
 ·rename_i hc
  refine .inl (List.drop_eq_nil_of_le ?_)
  have : vss.flatten.length = n * E.k:=by
   have e : ∀ (u : List (List Value)),(∀ v ∈ u,v.length = E.k) → u.flatten.length = u.length * E.k:=by
    intro u
    induction u with
    | nil=>intro _;simp
    | cons v t ih=>intro hh;rw [List.flatten_cons,List.length_append,ih (fun x hx=>hh x (by simp [hx])),hh v (by simp),List.length_cons,Nat.succ_mul];omega
   rw [e vss (Row.lens h1 h4 h6),h4]
  rw [this]
  exact Nat.mul_le_mul_right _ (by omega)
 ·exact h5.drop (k * E.k)
theorem Row.head (h : Row E S w A n c l) {k : Nat} (hk : k ≤ n) : Row E S w (cutA A 0 c E.k) k c (l.take k):=by
 obtain ⟨h1,h2,h3,vss,h4,h5,h6⟩:=h
 refine ⟨by rw [List.length_take];omega,by omega,h3,vss.take k,by rw [List.length_take];omega,?_,fun i v x hi hx=>?_⟩
 ·rw [flatten_take k (Row.lens h1 h4 h6)]
  unfold cutA
  split
  ·rename_i hc
   refine .inl ?_
   have : k = 0:=by omega
   subst this
   simp
  ·have:=(h5.drop 0).take (k * E.k)
   simpa using this
 ·rw [List.getElem?_take] at hi hx
  split at hi
  ·rename_i hlt
   rw [if_pos hlt] at hx
   exact h6 i v x hi hx
  ·cases hi
end
theorem elem_strs : Tryz.prog.underlying 51 = some (.slice (Tryz.prog.elem 51)):=by kernel_rfl
theorem size_str1 (w : World) : (sizeOf (Tryz.prog.elem 51)).run Tryz.prog w = .ok 1 w:=by kernel_rfl
theorem sslice_l (A : Option Addr) (n c l : Nat) (hlk : l ≤ n) :
 ∀ w,(Instr.sliceAt 51 (.slice A n c) (some (.int .i64 (l : Int))) none none).run Tryz.prog w = .ok (.slice (cutA A l c 1) (n - l) (c - l)) w:=fun w=>by
 have h1 : (l : Int) ≤ (n : Int):=by omega
 have:=run_slice_l (P:=Tryz.prog) w 51 A n c elem_strs .i64 (l : Int) (by omega) h1
 rw [run_sliceAt_slice w 51 _ _ _ _ elem_strs,this,size_str1]
 simp only [sliced,cutA,Result.andThen,Int.toNat_natCast]
theorem sslice_h (A : Option Addr) (n c k : Nat) (hlk : k ≤ c) :
 ∀ w,(Instr.sliceAt 51 (.slice A n c) none (some (.int .i64 (k : Int))) none).run Tryz.prog w = .ok (.slice (cutA A 0 c 1) k c) w:=fun w=>by
 have h2 : (k : Int) ≤ (c : Int):=by omega
 have:=run_slice_h (P:=Tryz.prog) w 51 A n c elem_strs .i64 (k : Int) (by omega) h2
 rw [run_sliceAt_slice w 51 _ _ _ _ elem_strs,this,size_str1]
 simp only [sliced,cutA,Result.andThen,Int.toNat_natCast,Nat.sub_zero]
end Go.Proofs.YtahahafhendgoaaGreatDoor
