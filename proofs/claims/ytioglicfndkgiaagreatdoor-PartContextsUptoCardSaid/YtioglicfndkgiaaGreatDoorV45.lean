/- Lemmas of the walk. -/
import Derived.Test.YtioglicfndkgiaaGreatDoorV38
import Derived.Test.YtioglicfndkgiaaGreatDoorRows
import Derived.Test.YtioglicfndkgiaaGreatDoorV04
import Derived.Test.YtioglicfndkgiaaGreatDoorV01
import Derived.Deep.Slices
import Derived.ChangeSlices
import Derived.Test.YtioglicfndkgiaaGreatDoorV13
import Derived.Test.YtioglicfndkgiaaGreatDoorV27
import Derived.Test.YtioglicfndkgiaaGreatDoorV14
import Derived.Test.YtioglicfndkgiaaGreatDoorV34
import Derived.Test.YtioglicfndkgiaaGreatDoorV05
import Derived.Test.YtioglicfndkgiaaGreatDoorV12
import Derived.Test.YtioglicfndkgiaaGreatDoorShl
import Derived.Lib.LaidU8
import Derived.PinnedBridge
import Derived.Stop.LaidErr
import Derived.Shelf.Vars
import Derived.MakeChecks
import Derived.ProofKit
set_option maxHeartbeats 40000000
set_option linter.unusedVariables false
set_option linter.unusedSimpArgs false
namespace Go.Proofs.YtioglicfndkgiaaGreatDoor
theorem zlV (g : Nat → Nat) (i0 : Nat) : ∀ k,((List.range k).map fun i=>g i + if i = i0 then 1 else 0).sum = ((List.range k).map g).sum + if i0 < k then 1 else 0
 | 0=>by simp
 | k + 1=>by
  rw [List.range_succ,List.map_append,List.map_append,List.sum_append,List.sum_append,zlV g i0 k]
  simp only [List.map_cons,List.map_nil,List.sum_cons,List.sum_nil,Nat.add_zero]
  by_cases h1 : i0 < k
  ·rw [if_pos h1,if_neg (show ¬ k = i0 by omega),if_pos (show i0 < k + 1 by omega)];omega
  ·by_cases h2 : k = i0
   ·rw [if_neg h1,if_pos h2,if_pos (show i0 < k + 1 by omega)];omega
   ·rw [if_neg h1,if_neg h2,if_neg (show ¬ i0 < k + 1 by omega)];omega
theorem zku (g : Nat → Nat) (i0 m : Nat) : ∀ k,((List.range k).map fun i=>g i + if i = i0 then m else 0).sum = ((List.range k).map g).sum + if i0 < k then m else 0
 | 0=>by simp
 | k + 1=>by
  rw [List.range_succ,List.map_append,List.map_append,List.sum_append,List.sum_append,zku g i0 m k]
  simp only [List.map_cons,List.map_nil,List.sum_cons,List.sum_nil,Nat.add_zero]
  by_cases h1 : i0 < k
  ·rw [if_pos h1,if_neg (show ¬ k = i0 by omega),if_pos (show i0 < k + 1 by omega)];omega
  ·by_cases h2 : k = i0
   ·rw [if_neg h1,if_pos h2,if_pos (show i0 < k + 1 by omega)];omega
   ·rw [if_neg h1,if_neg h2,if_neg (show ¬ i0 < k + 1 by omega)];omega
theorem zhj {α : Type} (f : α → Int) (k : Nat) : ∀ l : List α,(∀ x ∈ l,-1 ≤ f x ∧ f x < k) → (l.filter fun x=>decide (f x < 0)).length + ((List.range k).map fun i : Nat=>(l.filter fun x=>decide (f x = (i : Int))).length).sum = l.length
 | [],_=>by
  have : ∀ k : Nat,((List.range k).map fun _=>(0 : Nat)).sum = 0:=fun k=>by
   induction k with
   | zero=>rfl
   | succ k ih=>rw [List.range_succ,List.map_append,List.sum_append,ih];rfl
  simpa using this k
 | x :: l,h=>by
  have ih:=zhj f k l fun y hy=>h y (by simp [hy])
  obtain ⟨h1,h2⟩:=h x (by simp)
  by_cases hn : f x < 0
  ·have e : ∀ i : Nat,((x :: l).filter fun x=>decide (f x = (i : Int))).length = (l.filter fun x=>decide (f x = (i : Int))).length:=fun i=>by
    rw [List.filter_cons_of_neg (by simp;omega)]
   have e2 : ((x :: l).filter fun x=>decide (f x < 0)).length = (l.filter fun x=>decide (f x < 0)).length + 1:=by
    rw [List.filter_cons_of_pos (by simp;omega),List.length_cons]
   rw [e2,List.length_cons]
   simp only [e]
   omega
  ·obtain ⟨i0,hi0⟩ : ∃ i0 : Nat,f x = i0:=⟨(f x).toNat,by omega⟩
   have e : ∀ i : Nat,((x :: l).filter fun x=>decide (f x = (i : Int))).length = (l.filter fun x=>decide (f x = (i : Int))).length + if i = i0 then 1 else 0:=fun i=>by
    by_cases hi : i = i0
    ·rw [List.filter_cons_of_pos (by simp;omega),List.length_cons,if_pos hi]
    ·rw [List.filter_cons_of_neg (by simp;omega),if_neg hi];rfl
   have e2 : ((x :: l).filter fun x=>decide (f x < 0)).length = (l.filter fun x=>decide (f x < 0)).length:=by
    rw [List.filter_cons_of_neg (by simp;omega)]
   rw [e2,List.length_cons]
   simp only [e]
   rw [zlV,if_pos (by omega)]
   omega
theorem zh4 (f : Nat → Int) (g : Nat → Nat) (n : Nat) : ∀ l : List Nat,(∀ i ∈ l,0 ≤ f i ∧ f i < n) → ((List.range n).map fun s : Nat=>((l.filter fun i=>decide (f i = (s : Int))).map g).sum).sum = (l.map g).sum
 | [],_=>by
  have : ∀ k : Nat,((List.range k).map fun _=>(0 : Nat)).sum = 0:=fun k=>by
   induction k with
   | zero=>rfl
   | succ k ih=>rw [List.range_succ,List.map_append,List.sum_append,ih];rfl
  simpa using this n
 | x :: l,h=>by
  have ih:=zh4 f g n l fun y hy=>h y (by simp [hy])
  obtain ⟨h1,h2⟩:=h x (by simp)
  obtain ⟨s0,hs0⟩ : ∃ s0 : Nat,f x = s0:=⟨(f x).toNat,by omega⟩
  have e : ∀ s : Nat,(((x :: l).filter fun i=>decide (f i = (s : Int))).map g).sum = ((l.filter fun i=>decide (f i = (s : Int))).map g).sum + if s = s0 then g x else 0:=fun s=>by
   by_cases hs : s = s0
   ·rw [List.filter_cons_of_pos (by simp;omega),List.map_cons,List.sum_cons,if_pos hs];omega
   ·rw [List.filter_cons_of_neg (by simp;omega),if_neg hs];rfl
  simp only [e]
  rw [zku,if_pos (by omega),ih,List.map_cons,List.sum_cons]
  omega
theorem zqU {l : List Ent} {cs : List CutR} {n : Nat} (h : ∀ c ∈ cs,0 ≤ c.server ∧ c.server < n) (g : Cxt → Nat) : ((zb4 l cs n).map fun x=>(x.map g).sum).sum = ((List.range cs.length).map fun i=>g (zjI l cs i)).sum:=by
 unfold zb4 srvF
 rw [List.map_map]
 have:=zh4 (fun i=>((cs[i]?).map (·.server)).getD (-1)) (fun i=>g (zjI l cs i)) n (List.range cs.length) (fun i hi=>by
  have hi':=List.mem_range.1 hi
  rw [List.getElem?_eq_getElem hi']
  exact h _ (List.getElem_mem hi'))
 rw [← this]
 congr 1
 apply List.map_congr_left
 intro s _
 simp only [Function.comp_apply,List.map_map]
 rfl
theorem zoY {l : List Ent} {cs : List CutR} {n : Nat} (h : ∀ c ∈ cs,0 ≤ c.server ∧ c.server < n) (hc : ∀ e ∈ l,0 ≤ zbS cs (nmE e)) : ((zb4 l cs n).map fun x=>(x.map fun y=>y.ents.length).sum).sum = l.length:=by
 rw [zqU h]
 have:=zhj (fun e : Ent=>zbS cs (nmE e)) cs.length l (fun c _=>zgG _ _)
 have e : (l.filter fun e=>decide (zbS cs (nmE e) < 0)).length = 0:=by
  rw [List.length_eq_zero_iff,List.filter_eq_nil_iff]
  intro a ha
  have:=hc a ha
  simp;omega
 rw [e,Nat.zero_add] at this
 exact this
end Go.Proofs.YtioglicfndkgiaaGreatDoor
namespace Go.Proofs.YtioglicfndkgiaaGreatDoor.bulks
theorem zrB {H : Type} (d : DataW H) : 1 ≤ Rows.uptoBulk d:=by
 cases d with
 | lit l=>cases l <;> simp [Rows.uptoBulk]
 | nil=>simp [Rows.uptoBulk]
 | ptr d=>simp [Rows.uptoBulk]
 | slice elems spare=>simp [Rows.uptoBulk]
 | agg parts=>simp [Rows.uptoBulk]
 | iface t d=>simp [Rows.uptoBulk]
 | map entries=>simp [Rows.uptoBulk]
 | held h=>simp [Rows.uptoBulk]
theorem part_le {H : Type} {d : DataW H} {l : List (DataW H)} (h : d ∈ l) : Rows.uptoBulk d ≤ Rows.uptoBulkAll l:=by
 induction l with
 | nil=>cases h
 | cons x r ih=>
  simp only [Rows.uptoBulkAll]
  cases List.mem_cons.1 h with
  | inl e=>subst e;omega
  | inr e=>have:=ih e;omega
theorem zj0 {H : Type} (l : List (DataW H)) : l.length ≤ Rows.uptoBulkAll l:=by
 induction l with
 | nil=>simp [Rows.uptoBulkAll]
 | cons x r ih=>have:=zrB x;simp only [Rows.uptoBulkAll,List.length_cons];omega
theorem slice_le {H : Type} (elems spare : List (DataW H)) : elems.length + spare.length + 1 ≤ Rows.uptoBulk (.slice elems spare):=by
 have h1:=zj0 elems
 have h2:=zj0 spare
 simp only [Rows.uptoBulk]
 omega
theorem slice_elems {H : Type} (elems spare : List (DataW H)) : Rows.uptoBulkAll elems + 1 ≤ Rows.uptoBulk (.slice elems spare):=by
 simp only [Rows.uptoBulk]
 omega
theorem bound {H : Type} {l : List (DataW H)} (hk : Rows.uptoSmall H l = true) : Rows.uptoBulkAll l ≤ 1048576:=of_decide_eq_true hk
end Go.Proofs.YtioglicfndkgiaaGreatDoor.bulks
namespace Go.Proofs.YtioglicfndkgiaaGreatDoor
open Go.RowKit Go.ChangeShapes Go.WideShapes Go.Deep
set_option maxRecDepth 10000
theorem zih {k : Nat} : ∀ {vss : List (List Value)},(∀ v ∈ vss,v.length = k) → ∀ {j : Nat} {u : Value},vss.flatten[j]? = some u → ∃ i r v,vss[i]? = some v ∧ v[r]? = some u ∧ j = i * k + r ∧ r < k
 | [],_,j,u,h=>by simp at h
 | v0 :: vss,hl,j,u,h=>by
  have h0:=hl v0 (by simp)
  rw [List.flatten_cons] at h
  rcases Nat.lt_or_ge j v0.length with hj | hj
  ·rw [List.getElem?_append_left hj] at h
   exact ⟨0,j,v0,rfl,h,by omega,by omega⟩
  ·rw [List.getElem?_append_right hj] at h
   obtain ⟨i,r,v,h1,h2,h3,h4⟩:=zih (fun v hv=>hl v (by simp [hv])) h
   exact ⟨i + 1,r,v,by simpa using h1,h2,by rw [Nat.succ_mul];omega,h4⟩
section
variable {H : Type} {enc : TypeId × Value → H} {W : World}
theorem zgj {α : Type} (E : Elem α) (Q : α → Prop) {t e : TypeId} (ht : Tryz.prog.underlying t = some (.slice e)) (hk : Tryz.prog.cellsOf e = E.k) {M : Nat}
 (hE : ∀ (n : Nat) cs (x : DataW H × List MemPlace),DataW.trod enc Tryz.prog W 0 (fun _=>true) true n e cs = some x → Rows.uptoBulk x.1 < M → ∃ a,E.R (fun _=>True) W cs a ∧ Q a)
 {fuel : Nat} {cs : List Value} {x : DataW H × List MemPlace} (h : DataW.trod enc Tryz.prog W 0 (fun _=>true) true fuel t cs = some x) (hM : Rows.uptoBulk x.1 ≤ M) :
 ∃ A n c l,cs = [.slice A n c] ∧ Row E (fun _=>True) W A n c l ∧ l.length ≤ M ∧ ∀ a ∈ l,Q a:=by
 rcases open_slice ht h with ⟨rfl,rfl⟩ | ⟨a,len,cap,m,n,D,Pl,rfl,-,hl,hm,hmm,rfl,hx⟩
 ·exact ⟨none,0,0,[],rfl,Row.nil E _ W,by simp,by simp⟩
 ·simp only [if_true] at hmm
  subst hmm
  have hb:=bulks.slice_le (H:=H) ((List.range len).map D) ((List.range (m - len)).map fun j=>D (len + j))
  have hb2:=bulks.slice_elems (H:=H) ((List.range len).map D) ((List.range (m - len)).map fun j=>D (len + j))
  simp only [List.length_map,List.length_range] at hb
  simp only [] at hM
  have hD : ∀ i,i < len → Rows.uptoBulk (D i) < M:=fun i hi=>by
   have:=bulks.part_le (d:=D i) (l:=(List.range len).map D) (List.mem_map.2 ⟨i,List.mem_range.2 hi,rfl⟩)
   omega
  rcases Nat.eq_zero_or_pos len with h0 | h0
  ·subst h0
   exact ⟨some a,0,m,[],rfl,⟨rfl,Nat.zero_le _,hm,[],rfl,.inl rfl,fun i v x hi=>by simp at hi⟩,by simp,by simp⟩
  ·have hone : ∀ i,i < len → ∃ y : List Value × α,W.cells? 0 (a.add (i * E.k)) E.k = some y.1 ∧ E.R (fun _=>True) W y.1 y.2 ∧ Q y.2:=fun i hi=>by
    obtain ⟨cs',h1,h2⟩:=hx i (by omega)
    rw [hk] at h1
    obtain ⟨o,hR,hQ⟩:=hE n cs' _ h2 (hD i hi)
    exact ⟨(cs',o),h1,hR,hQ⟩
   haveI : Inhabited α:=⟨(hone 0 h0).choose.2⟩
   obtain ⟨f,hf⟩:=choose_lt hone
   have hspot : ∃ b off,a = ⟨b,off,none⟩:=by
    obtain ⟨h1,-,-⟩:=hf 0 h0
    obtain ⟨-,hlen,hc⟩:=World.cells?_some h1
    have h2:=hc 0 E.pos
    rw [List.getElem?_eq_getElem (by rw [hlen];exact E.pos)] at h2
    obtain ⟨b,off,spot⟩:=a
    have hs : spot = none:=by simpa [Addr.add] using World.cell?_spot h2
    exact ⟨b,off,by rw [hs]⟩
   obtain ⟨b,off,rfl⟩:=hspot
   have hall : ∀ v ∈ (List.range len).map fun i=>(f i).1,v.length = E.k:=fun v hv=>by
    obtain ⟨i,hi,rfl⟩:=List.mem_map.1 hv
    exact E.len (hf i (List.mem_range.1 hi)).2.1
   refine ⟨_,_,_,(List.range len).map fun i=>(f i).2,rfl,⟨by simp,hl,hm,(List.range len).map fun i=>(f i).1,by simp,.inr ⟨b,off,rfl,trivial,fun j u hj=>?_⟩,fun i v x hi hx=>?_⟩,by simp;omega,fun o ho=>?_⟩
   ·obtain ⟨i,r,v,h1,h2,rfl,hr⟩:=zih hall hj
    have hi : i < len:=by have:=(List.getElem?_eq_some_iff.1 h1).1;simpa using this
    have hv : v = (f i).1:=by simpa [hi] using h1.symm
    obtain ⟨-,-,hc⟩:=World.cells?_some (hf i hi).1
    have:=hc r hr
    rw [add_add,zel] at this
    rw [this,← hv,h2]
   ·have hi' : i < len:=by have:=(List.getElem?_eq_some_iff.1 hi).1;simpa using this
    have h1 : v = (f i).1:=by simpa [hi'] using hi.symm
    have h2 : x = (f i).2:=by simpa [hi'] using hx.symm
    subst h1 h2
    exact (hf i hi').2.1
   ·obtain ⟨i,hi,rfl⟩:=List.mem_map.1 ho
    exact (hf i (List.mem_range.1 hi)).2.2
theorem ziC {t : TypeId} {fs : Array Field} (ht : Tryz.prog.underlying t = some (.struct fs)) {M : Nat} {fuel : Nat} {cs : List Value} {x : DataW H × List MemPlace}
 (h : DataW.trod enc Tryz.prog W 0 (fun _=>true) true fuel t cs = some x) (hM : Rows.uptoBulk x.1 ≤ M) :
 cs.length = Tryz.prog.cellsOf t ∧ ∀ (i : Nat) (f : Field),fs[i]? = some f → ∃ m y,DataW.trod enc Tryz.prog W 0 (fun _=>true) true m f.type ((cs.drop f.offset).take (Tryz.prog.cellsOf f.type)) = some y ∧ Rows.uptoBulk y.1 < M:=by
 obtain ⟨xs,n,-,rfl,hl,hlen,hf⟩:=DataW.trod_struct ht h
 refine ⟨hl,fun i f hi=>?_⟩
 have hi' : i < xs.length:=by rw [hlen];exact (Array.getElem?_eq_some_iff.1 hi).1
 have h1:=hf i f hi
 rw [List.getElem?_eq_getElem hi'] at h1
 refine ⟨n,xs[i],h1,?_⟩
 have h2:=bulks.part_le (d:=xs[i].1) (l:=xs.map (·.1)) (List.mem_map.2 ⟨_,List.getElem_mem hi',rfl⟩)
 simp only [Rows.uptoBulk] at hM
 omega
theorem zeY {t : TypeId} (ht : Tryz.prog.underlying t = some .string) {M : Nat} {fuel : Nat} {cs : List Value} {x : DataW H × List MemPlace}
 (h : DataW.trod enc Tryz.prog W 0 (fun _=>true) true fuel t cs = some x) (hM : Rows.uptoBulk x.1 ≤ M) : ∃ s : ByteArray,cs = [.string s] ∧ s.size < M:=by
 obtain ⟨s,rfl,rfl,-⟩:=DataW.trod_string ht h
 exact ⟨s,rfl,by simp only [Rows.uptoBulk,Array.length_toList] at hM;exact hM⟩
theorem zp4 {t : TypeId} (ht : Tryz.prog.underlying t = some (.int .i64)) {fuel : Nat} {cs : List Value} {x : DataW H × List MemPlace}
 (h : DataW.trod enc Tryz.prog W 0 (fun _=>true) true fuel t cs = some x) : ∃ k : Int,cs = [.int .i64 k] ∧ -9223372036854775808 ≤ k ∧ k ≤ 9223372036854775807:=by
 obtain ⟨s,rfl,rfl,hw⟩:=DataW.trod_int ht h
 refine ⟨s,rfl,?_⟩
 simp only [Lit.wf,Bool.and_eq_true] at hw
 exact ⟨of_decide_eq_true hw.1,of_decide_eq_true hw.2⟩
theorem zef {cs : List Value} {i k j : Nat} {v : Value} (h : (cs.drop i).take k = [v]) (hk : k = 1) (hj : i + 1 = j) : cs.drop i = v :: cs.drop j:=by
 subst hk hj
 have h1:=List.take_append_drop 1 (cs.drop i)
 rw [h,List.drop_drop] at h1
 exact h1.symm
theorem zix {cs : List Value} {n k : Nat} (h : cs.length = k) (hk : k = n) : cs.drop n = []:=List.drop_eq_nil_of_le (by omega)
end
end Go.Proofs.YtioglicfndkgiaaGreatDoor
namespace Go.Proofs.YtioglicfndkgiaaGreatDoor
open Go.RowKit Go.ChangeShapes Go.WideShapes Go.Deep
set_option maxRecDepth 100000
def zrI (s : ByteArray) : Prop:=s.size ≤ 1048576
def zq2 (a : Att) : Prop:=a.type.size ≤ 1048576 ∧ a.vals.length ≤ 1048576 ∧ ∀ v ∈ a.vals,v.size ≤ 1048576
def zpm (e : Ent) : Prop:=e.name.size ≤ 1048576 ∧ e.atts.length ≤ 1048576 ∧ ∀ a ∈ e.atts,zq2 a
section
variable {H : Type} {enc : TypeId × Value → H} {W : World}
theorem zow {M : Nat} (hM0 : M ≤ 1048576) {fuel : Nat} {cs : List Value} {x : DataW H × List MemPlace} (h : DataW.trod enc Tryz.prog W 0 (fun _=>true) true fuel 9 cs = some x) (hM : Rows.uptoBulk x.1 ≤ M) : ∃ s : ByteArray,Elem.str.R (fun _=>True) W cs s ∧ zrI s:=by
 obtain ⟨s,e0,q0⟩:=zeY Tryz.underlying9 h hM
 exact ⟨s,e0,Nat.le_trans (Nat.le_of_lt q0) hM0⟩
theorem zpZ {M : Nat} (hM0 : M ≤ 1048576) {fuel : Nat} {cs : List Value} {x : DataW H × List MemPlace} (h : DataW.trod enc Tryz.prog W 0 (fun _=>true) true fuel 57 cs = some x) (hM : Rows.uptoBulk x.1 ≤ M) : ∃ a : Att,Elem.att.R (fun _=>True) W cs a ∧ zq2 a:=by
 obtain ⟨hl,hf⟩:=ziC Tryz.underlying57 h hM
 obtain ⟨m0,y0,h0,b0⟩:=hf 0 _ rfl
 obtain ⟨s,e0,q0⟩:=zeY Tryz.underlying9 h0 (Nat.le_of_lt b0)
 obtain ⟨m1,y1,h1,b1⟩:=hf 1 _ rfl
 obtain ⟨A,n,c,l,e1,r1,l1,q1⟩:=zgj Elem.str zrI Tryz.underlying55 (by kernel_rfl) (fun n cs x hx hb=>zow (M:=1048576) (Nat.le_refl _) hx (by omega)) h1 (Nat.le_of_lt b1)
 have hcs : cs.drop 0 = [.string s,.slice A n c]:=by rw [zef (i:=0) (j:=1) e0 (by kernel_rfl) rfl,zef (i:=1) (j:=2) e1 (by kernel_rfl) rfl,zix (n:=2) hl (by kernel_rfl)]
 rw [List.drop_zero] at hcs
 exact ⟨⟨s,l⟩,⟨A,n,c,hcs,r1⟩,Nat.le_trans (Nat.le_of_lt q0) hM0,Nat.le_trans l1 hM0,q1⟩
theorem zo5 {M : Nat} (hM0 : M ≤ 1048576) {fuel : Nat} {cs : List Value} {x : DataW H × List MemPlace} (h : DataW.trod enc Tryz.prog W 0 (fun _=>true) true fuel 44 cs = some x) (hM : Rows.uptoBulk x.1 ≤ M) : ∃ a : Ent,Elem.ent.R (fun _=>True) W cs a ∧ zpm a:=by
 obtain ⟨hl,hf⟩:=ziC Tryz.underlying44 h hM
 obtain ⟨m0,y0,h0,b0⟩:=hf 0 _ rfl
 obtain ⟨s,e0,q0⟩:=zeY Tryz.underlying9 h0 (Nat.le_of_lt b0)
 obtain ⟨m1,y1,h1,b1⟩:=hf 1 _ rfl
 obtain ⟨A,n,c,l,e1,r1,l1,q1⟩:=zgj Elem.att zq2 Tryz.underlying42 (by kernel_rfl) (fun n cs x hx hb=>zpZ (M:=1048576) (Nat.le_refl _) hx (by omega)) h1 (Nat.le_of_lt b1)
 have hcs : cs.drop 0 = [.string s,.slice A n c]:=by rw [zef (i:=0) (j:=1) e0 (by kernel_rfl) rfl,zef (i:=1) (j:=2) e1 (by kernel_rfl) rfl,zix (n:=2) hl (by kernel_rfl)]
 rw [List.drop_zero] at hcs
 exact ⟨⟨s,l⟩,⟨A,n,c,hcs,r1⟩,Nat.le_trans (Nat.le_of_lt q0) hM0,Nat.le_trans l1 hM0,q1⟩
end
end Go.Proofs.YtioglicfndkgiaaGreatDoor
namespace Go.Proofs.YtioglicfndkgiaaGreatDoor
open Go.RowKit Go.ChangeShapes Go.WideShapes Go.Deep
set_option maxRecDepth 100000
def zqT (c : CutR) : Prop:=c.name.size ≤ 1048576 ∧ -9223372036854775808 ≤ c.server ∧ c.server ≤ 9223372036854775807
section
variable {H : Type} {enc : TypeId × Value → H} {W : World}
theorem cut_open {M : Nat} (hM0 : M ≤ 1048576) {fuel : Nat} {cs : List Value} {x : DataW H × List MemPlace} (h : DataW.trod enc Tryz.prog W 0 (fun _=>true) true fuel 46 cs = some x) (hM : Rows.uptoBulk x.1 ≤ M) : ∃ a : CutR,Elem.cut.R (fun _=>True) W cs a ∧ zqT a:=by
 obtain ⟨hl,hf⟩:=ziC Tryz.underlying46 h hM
 obtain ⟨m0,y0,h0,b0⟩:=hf 0 _ rfl
 obtain ⟨s,e0,q0⟩:=zeY Tryz.underlying9 h0 (Nat.le_of_lt b0)
 obtain ⟨m1,y1,h1,b1⟩:=hf 1 _ rfl
 obtain ⟨k,e1,k1,k2⟩:=zp4 Tryz.underlying3 h1
 have hcs : cs.drop 0 = [.string s,.int .i64 k]:=by rw [zef (i:=0) (j:=1) e0 (by kernel_rfl) rfl,zef (i:=1) (j:=2) e1 (by kernel_rfl) rfl,zix (n:=2) hl (by kernel_rfl)]
 rw [List.drop_zero] at hcs
 exact ⟨⟨s,k⟩,hcs,Nat.le_trans (Nat.le_of_lt q0) hM0,k1,k2⟩
end
end Go.Proofs.YtioglicfndkgiaaGreatDoor
namespace Go.Proofs.YtioglicfndkgiaaGreatDoor
open Go.RowKit
set_option maxRecDepth 100000
theorem zmH {S : Nat → Prop} {A : Option Addr} {n c : Nat} {l : List CutR} {w : World} (h : Row Elem.cut S w A n c l) (hm : l.length ≤ 2000000) :
 Calls Tryz.prog 9 #[.slice A n c] w fun e w'=>∃ A' n' c',e = .returned (.slice A' n' c') ∧ Row Elem.cut (fun b=>w.heap.size ≤ b) w' A' n' c' l ∧ Ext w w':=by
 have HR:=hid h
 have HLN:=hid h.len
 have HM:=hid hm
 have hn : n ≤ 9223372036854775807:=by have:=h.cap;have:=h.most;simp only [maxLen] at this;omega
 clear h hm
 go_enter Tryz.func9,Tryz.ntmps9
 go_wp2
 go_loopw [3,7] (fun v i wr=>∃ j : Nat,j ≤ n ∧ i = .int .i64 j ∧ Hid (GrowR Elem.cut 58 none w wr v (l.take j))) (fun _ i _=>n - (intOf i).toNat)
 case atStart=>exact ⟨0,by omega,rfl,GrowR.nil (Ext.refl _) (fun g hg=>by cases hg)⟩
 case round=>
  obtain ⟨j,hj,rfl,HGR⟩:=hrel
  by_cases hlt : j < n
  ·obtain ⟨b1,o1,v1,x1,rfl,g1,-,r1,q1⟩:=(HR.out.ext HGR.out.ext).at_ hlt
   obtain ⟨nm1,sv1⟩:=x1
   cases r1
   have e10:=q1 0 _ rfl
   have e11:=q1 1 _ rfl
   simp only [Elem.cut,Nat.add_zero] at e10 e11
   have Hg:=hid g1
   clear q1 g1
   have HLT : Hid ((l.take j).length ≤ 4000000):=by show _ ≤ _;rw [List.length_take];have:=HLN.out;have:=HM.out;omega
   go_wp2_with (at_builtin;refine zoX Tryz.underlying28 ziY rfl (by decide) rfl _ _ rfl _ _ rfl HGR.out (u:=[.string nm1,.int .i64 sv1]) ⟨nm1,sv1⟩ rfl (by intro c hc;simp at hc;rcases hc with rfl | rfl <;> rfl) rfl rfl HLT.out ?_;intro v' w3 hg3 _ _;have HG3:=hid hg3;clear hg3)
   exact ⟨⟨j + 1,by omega,by go_num,by (have e : l.take (j + 1) = l.take j ++ [⟨nm1,sv1⟩]:=by (rw [List.take_add_one,Hg.out];rfl));rw [e];exact HG3⟩,by simp [intOf];omega⟩
  ·obtain rfl : j = n:=by omega
   have hgr:=HGR.out
   rw [List.take_of_length_le (Nat.le_of_eq HLN.out.symm)] at hgr
   obtain ⟨A2,c2,rfl,hr2⟩:=hgr.row
   have HR2:=hid hr2
   have HX:=hid hgr.ext
   clear hgr hr2 HGR
   go_wp2
   go_ret
   exact ⟨A2,_,c2,rfl,HR2.out,HX.out⟩
theorem znD (cs : List CutR) (nm : List UInt8) : ∀ j,j ≤ cs.length → za8 nm 0 (-1,-1) (cs.take j) = (-1,-1) ∨ ∃ (k : Nat) (c : CutR),za8 nm 0 (-1,-1) (cs.take j) = ((k : Int),za1 (nmQ c)) ∧ cs[k]? = some c:=by
 intro j
 induction j with
 | zero=>intro _;exact .inl rfl
 | succ j ih=>
  intro hj
  have hc : cs[j]? = some cs[j]:=List.getElem?_eq_getElem (by omega)
  rw [zdy hc]
  generalize cs[j] = x at *
  unfold zcg
  split
  ·exact .inr ⟨j,x,rfl,hc⟩
  ·exact ih (by omega)
theorem zmO (s : ByteArray) (w : World) (hG : Gl w) : Calls Tryz.prog 35 #[.string s] w fun e w'=>e = .returned (.int .i64 (za1 (bys s))) ∧ Ext w w':=by
 have HP:=zfv s w hG
 unfold zbq at HP
 have HD : Hid (za1 (bys s) = ((okL (zaf (bys s))).length : Int)):=rfl
 have HLS : ∀ (S : Nat → Prop) w A n c,Row Elem.str S w A n c (strs (okL (zaf (bys s)))) → n = (okL (zaf (bys s))).length:=fun S w A n c h=>by rw [h.len,List.length_map]
 generalize okL (zaf (bys s)) = l at *
 generalize zaD (zaf (bys s)) = cd at *
 go_enter Tryz.func35,Tryz.ntmps35
 go_wp2_with (go_at_call 59;(with_reducible refine HP.mono ?_);rintro e w1 ⟨A1,n1,c1,rfl,hr1,hx1⟩;have HN:=hid (HLS _ _ _ _ _ hr1);have HX1:=hid hx1;clear hx1 hr1)
 go_ret
 exact ⟨by rw [HD.out,HN.out];(try rfl),HX1.out⟩
theorem zkA {S : Nat → Prop} {A : Option Addr} {n c : Nat} {l : List CutR} {w : World} (h : Row Elem.cut S w A n c l) (name : ByteArray) (hG : Gl w) :
 Calls Tryz.prog 19 #[.slice A n c,.string name] w fun e w'=>e = .returned (.int .i64 (zbS l (bys name))) ∧ Ext w w':=by
 have HG:=hid hG
 have HR:=hid h
 have HLN:=hid h.len
 have hn : n ≤ 9223372036854775807:=by have:=h.cap;have:=h.most;simp only [maxLen] at this;omega
 have HD : ∀ (s : ByteArray) w,Gl w → Calls Tryz.prog 35 #[.string s] w fun e w'=>e = .returned (.int .i64 (za1 (bys s))) ∧ Ext w w':=fun s w hG=>zmO s w hG
 have HU : ∀ (s : ByteArray) w,Gl w → Calls Tryz.prog 34 #[.string name,.string s] w fun e w'=>e = .returned (.bool (za9 (bys name) (bys s))) ∧ Ext w w':=fun s w hG=>zmE name s w hG
 clear h hG
 go_enter Tryz.func19,Tryz.ntmps19
 go_wp2
 go_loopw [5,9] (fun b i wr=>∃ (j : Nat),j ≤ n ∧ i = .int .i64 j ∧ b = .int .i64 (za8 (bys name) 0 (-1,-1) (l.take j)).1 ∧ Hid (Ext w wr)) (fun _ i _=>n - (intOf i).toNat)
 case atStart=>exact ⟨0,by omega,rfl,rfl,Ext.refl _⟩
 case round=>
  obtain ⟨j,hj,rfl,rfl,hx⟩:=hrel
  by_cases hlt : j < n
  ·obtain ⟨b1,o1,v1,x1,rfl,g1,-,r1,q1⟩:=(HR.out.ext hx.out).at_ hlt
   have HTK:=hid (zdy (nm:=bys name) g1)
   have HAT:=hid (znD l (bys name) j (by rw [← HLN.out];exact hj))
   have HDX:=HD x1.name
   have HUX:=HU x1.name
   have hlt' : (j : Int) < (n : Int):=by omega
   have hd0 : 0 ≤ za1 (bys x1.name):=by unfold za1;omega
   have HSD : Hid (zcg (bys name) j (za8 (bys name) 0 (-1,-1) (l.take j)) x1 = if decide ((za8 (bys name) 0 (-1,-1) (l.take j)).2 < za1 (bys x1.name)) && za9 (bys name) (bys x1.name) then ((j : Int),za1 (bys x1.name)) else za8 (bys name) 0 (-1,-1) (l.take j)):=rfl
   clear HU g1
   generalize za1 (bys x1.name) = dx at *
   generalize za9 (bys name) (bys x1.name) = ux at *
   obtain ⟨nm1,sv1⟩:=x1
   cases r1
   have e10:=q1 0 _ rfl
   simp only [Elem.cut,CutR.cells,Nat.add_zero] at e10
   simp only at HDX HUX
   clear q1
   generalize za8 (bys name) 0 (-1,-1) (l.take j) = st at *
   obtain ⟨st2,hst2⟩ : ∃ x,x = za8 (bys name) 0 (-1,-1) (l.take (j + 1)):=⟨_,rfl⟩
   rw [← hst2] at HTK
   have HS2:=hid hst2
   clear hst2
   cases ux
   ·rw [Bool.and_false,if_neg (by decide)] at HSD
    have HE:=hid (HTK.out.trans HSD.out)
    clear HAT HD HDX
    go_wp2
    refine zac (.read 0 (.read 1 (.read 2 (.read 3 (.read 4 (.read 5 (.main 6 (.read 7 (.read 8 (.read 9 (.read 10 (.read 11 (.read 12 (.read 13 (.read 14 (.read 15 (.read 17 (.read 18 (.read 19 (.read 20 (.read 21 (.main 16 (.main 22 (.read 23 (.read 24 (.read 25 .done)))))))))))))))))))))))))) (by kernel_rfl) (by kernel_rfl) ?_
    intro wD hxD
    have XE : Hid (Ext wD wD):=Ext.refl _
    have p0:=zaa (zaa e10 _ hxD)
    repeat' (first
     | ((first | refine zak rfl rfl ?_ | refine zad rfl rfl ?_ | refine zaj rfl rfl ?_);simp only [Act.put,Act.eval,evs])
     | (refine zab rfl rfl ?_;simp only [Act.put,evp])
     | (refine zag (v:=?_) rfl rfl (fun w' hE=>?_) ?_;rotate_left 1;(· ((try (have hEx:=Ext.trans (Hid.out XE) hE));go_simp;(try go_bits);with_reducible rfl));simp only [Act.put,evp])
     | (refine walks_alt ?_ ?_)
     | (refine zai rfl rfl (fun K hK=>?_);go_wp2_with ((go_at_call 34;(with_reducible refine (HUX _ (HG.out.ext (hx.out.trans (hxD.trans XE.out)))).mono ?_);rintro e w2 ⟨rfl,hx2⟩;have XE':=hid (Ext.trans (Hid.out XE) hx2);clear XE;have XE:=XE';clear XE'));refine hK _ _ (by first | assumption | exact Ext.alloc _ _ | exact Ext.refl _) ?_;clear hK K;try simp only [Act.put,evp]))
    refine zah ?_
    go_wp2
    exact ⟨⟨j + 1,by omega,by go_num,by rw [← HS2.out,HE.out],hx.out.trans (hxD.trans XE.out)⟩,by simp [intOf];omega⟩
   ·rw [Bool.and_true] at HSD
    rcases HAT.out with e | ⟨k,c2,e,hc2⟩
    ·subst e
     have HE : Hid (st2 = ((j : Int),dx)):=by
      have h1:=HTK.out.trans HSD.out
      rw [decide_eq_true (show ((-1 : Int),(-1 : Int)).2 < dx by show (-1 : Int) < dx;omega),if_pos rfl] at h1
      exact h1
     clear HAT HD HDX HSD HTK
     go_wp2
     refine zac (.read 0 (.read 1 (.read 2 (.read 3 (.read 4 (.read 5 (.main 6 (.read 7 (.read 8 (.read 9 (.read 10 (.read 11 (.read 12 (.read 13 (.read 14 (.read 15 (.read 17 (.read 18 (.read 19 (.read 20 (.read 21 (.main 16 (.main 22 (.read 23 (.read 24 (.read 25 .done)))))))))))))))))))))))))) (by kernel_rfl) (by kernel_rfl) ?_
     intro wD hxD
     have XE : Hid (Ext wD wD):=Ext.refl _
     have p0:=zaa (zaa e10 _ hxD)
     repeat' (first
      | ((first | refine zak rfl rfl ?_ | refine zad rfl rfl ?_ | refine zaj rfl rfl ?_);simp only [Act.put,Act.eval,evs])
      | (refine zab rfl rfl ?_;simp only [Act.put,evp])
      | (refine zag (v:=?_) rfl rfl (fun w' hE=>?_) ?_;rotate_left 1;(· ((try (have hEx:=Ext.trans (Hid.out XE) hE));go_simp;(try go_bits);with_reducible rfl));simp only [Act.put,evp])
      | (refine walks_alt ?_ ?_)
      | (refine zai rfl rfl (fun K hK=>?_);go_wp2_with ((go_at_call 34;(with_reducible refine (HUX _ (HG.out.ext (hx.out.trans (hxD.trans XE.out)))).mono ?_);rintro e w2 ⟨rfl,hx2⟩;have XE':=hid (Ext.trans (Hid.out XE) hx2);clear XE;have XE:=XE';clear XE'));refine hK _ _ (by first | assumption | exact Ext.alloc _ _ | exact Ext.refl _) ?_;clear hK K;try simp only [Act.put,evp]))
     refine zah ?_
     go_wp2
     exact ⟨⟨j + 1,by omega,by go_num,by rw [← HS2.out,HE.out],hx.out.trans (hxD.trans XE.out)⟩,by simp [intOf];omega⟩
    ·have hk : k < n:=by rw [HLN.out];exact (List.getElem?_eq_some_iff.1 hc2).1
     obtain ⟨b3,o3,v3,x3,e3,g3,-,r3,q3⟩:=(HR.out.ext hx.out).at_ hk
     cases e3
     rw [hc2] at g3
     injection g3 with g3
     subst g3
     have HDC:=HD c2.name
     have e' : st = ((k : Int),za1 (bys c2.name)):=e
     clear e
     generalize za1 (bys c2.name) = dc at *
     obtain ⟨nm3,sv3⟩:=c2
     cases r3
     have e30:=q3 0 _ rfl
     simp only [Elem.cut,CutR.cells,Nat.add_zero] at e30
     simp only at HDC
     subst e'
     have hk' : (k : Int) < (n : Int):=by omega
     have hk0 : ¬ (k : Int) < 0:=by omega
     have HAD : ∀ w',Ext wr w' → Gl w':=fun w' hx'=>HG.out.ext (hx.out.trans hx')
     by_cases hd : dc < dx
     ·have HE : Hid (st2 = ((j : Int),dx)):=by
       have h1:=HTK.out.trans HSD.out
       rw [decide_eq_true (show ((k : Int),dc).2 < dx from hd),if_pos rfl] at h1
       exact h1
      clear HAT HD HSD HTK q3 hc2
      go_wp2
      refine zac (.read 0 (.read 1 (.read 2 (.read 3 (.read 4 (.read 5 (.main 6 (.read 7 (.read 8 (.read 9 (.read 10 (.read 11 (.read 12 (.read 13 (.read 14 (.read 15 (.read 17 (.read 18 (.read 19 (.read 20 (.read 21 (.main 16 (.main 22 (.read 23 (.read 24 (.read 25 .done)))))))))))))))))))))))))) (by kernel_rfl) (by kernel_rfl) ?_
      intro wD hxD
      have XE : Hid (Ext wD wD):=Ext.refl _
      have p0:=zaa (zaa e10 _ hxD)
      have p1:=zaa (zaa e30 _ hxD)
      repeat' (first
       | ((first | refine zak rfl rfl ?_ | refine zad rfl rfl ?_ | refine zaj rfl rfl ?_);simp only [Act.put,Act.eval,evs])
       | (refine zab rfl rfl ?_;simp only [Act.put,evp])
       | (refine zag (v:=?_) rfl rfl (fun w' hE=>?_) ?_;rotate_left 1;(· ((try (have hEx:=Ext.trans (Hid.out XE) hE));go_simp;(try go_bits);with_reducible rfl));simp only [Act.put,evp])
       | (refine walks_alt ?_ ?_)
       | (refine zai rfl rfl (fun K hK=>?_);go_wp2_with ((first | (go_at_call 34;(with_reducible refine (HUX _ (HAD _ (hxD.trans XE.out))).mono ?_);rintro e w2 ⟨rfl,hx2⟩;have XE':=hid (Ext.trans (Hid.out XE) hx2);clear XE;have XE:=XE';clear XE') | (go_at_call 35;first | ((with_reducible refine (HDX _ (HAD _ (hxD.trans XE.out))).mono ?_);rintro e w2 ⟨rfl,hx2⟩;have XE':=hid (Ext.trans (Hid.out XE) hx2);clear XE;have XE:=XE';clear XE') | ((with_reducible refine (HDC _ (HAD _ (hxD.trans XE.out))).mono ?_);rintro e w2 ⟨rfl,hx2⟩;have XE':=hid (Ext.trans (Hid.out XE) hx2);clear XE;have XE:=XE';clear XE'))));refine hK _ _ (by first | assumption | exact Ext.alloc _ _ | exact Ext.refl _) ?_;clear hK K;try simp only [Act.put,evp]))
      refine zah ?_
      go_wp2
      exact ⟨⟨j + 1,by omega,by go_num,by rw [← HS2.out,HE.out],hx.out.trans (hxD.trans XE.out)⟩,by simp [intOf];omega⟩
     ·have HE : Hid (st2 = ((k : Int),dc)):=by
       have h1:=HTK.out.trans HSD.out
       rw [decide_eq_false (show ¬ ((k : Int),dc).2 < dx from hd),if_neg (by decide)] at h1
       exact h1
      clear HAT HD HSD HTK q3 hc2
      go_wp2
      refine zac (.read 0 (.read 1 (.read 2 (.read 3 (.read 4 (.read 5 (.main 6 (.read 7 (.read 8 (.read 9 (.read 10 (.read 11 (.read 12 (.read 13 (.read 14 (.read 15 (.read 17 (.read 18 (.read 19 (.read 20 (.read 21 (.main 16 (.main 22 (.read 23 (.read 24 (.read 25 .done)))))))))))))))))))))))))) (by kernel_rfl) (by kernel_rfl) ?_
      intro wD hxD
      have XE : Hid (Ext wD wD):=Ext.refl _
      have p0:=zaa (zaa e10 _ hxD)
      have p1:=zaa (zaa e30 _ hxD)
      repeat' (first
       | ((first | refine zak rfl rfl ?_ | refine zad rfl rfl ?_ | refine zaj rfl rfl ?_);simp only [Act.put,Act.eval,evs])
       | (refine zab rfl rfl ?_;simp only [Act.put,evp])
       | (refine zag (v:=?_) rfl rfl (fun w' hE=>?_) ?_;rotate_left 1;(· ((try (have hEx:=Ext.trans (Hid.out XE) hE));go_simp;(try go_bits);with_reducible rfl));simp only [Act.put,evp])
       | (refine walks_alt ?_ ?_)
       | (refine zai rfl rfl (fun K hK=>?_);go_wp2_with ((first | (go_at_call 34;(with_reducible refine (HUX _ (HAD _ (hxD.trans XE.out))).mono ?_);rintro e w2 ⟨rfl,hx2⟩;have XE':=hid (Ext.trans (Hid.out XE) hx2);clear XE;have XE:=XE';clear XE') | (go_at_call 35;first | ((with_reducible refine (HDX _ (HAD _ (hxD.trans XE.out))).mono ?_);rintro e w2 ⟨rfl,hx2⟩;have XE':=hid (Ext.trans (Hid.out XE) hx2);clear XE;have XE:=XE';clear XE') | ((with_reducible refine (HDC _ (HAD _ (hxD.trans XE.out))).mono ?_);rintro e w2 ⟨rfl,hx2⟩;have XE':=hid (Ext.trans (Hid.out XE) hx2);clear XE;have XE:=XE';clear XE'))));refine hK _ _ (by first | assumption | exact Ext.alloc _ _ | exact Ext.refl _) ?_;clear hK K;try simp only [Act.put,evp]))
      refine zah ?_
      go_wp2
      exact ⟨⟨j + 1,by omega,by go_num,by rw [← HS2.out,HE.out],hx.out.trans (hxD.trans XE.out)⟩,by simp [intOf];omega⟩
  ·obtain rfl : j = n:=by omega
   have hlt' : ¬ (j : Int) < (j : Int):=by omega
   have HF : Hid (zbS l (bys name) = (za8 (bys name) 0 (-1,-1) (l.take j)).1):=by show _ = _;rw [List.take_of_length_le (Nat.le_of_eq HLN.out.symm)];rfl
   go_wp2
   go_ret
   exact ⟨by rw [HF.out];(try rfl),hx.out⟩
def zdr (l : List CutR) (nm : ByteArray) (w : World) (e : Ending) (w' : World) : Prop:=e = .returned (.tuple #[.int .i64 (max (zbS l (bys nm)) 0),.bool (decide (0 ≤ zbS l (bys nm)))]) ∧ Ext w w'
theorem zj8 {S : Nat → Prop} {A : Option Addr} {n c : Nat} {l : List CutR} {w : World} (h : Row Elem.cut S w A n c l) (name : ByteArray) (hG : Gl w) :
 Calls Tryz.prog 8 #[.slice A n c,.string name] w (zdr l name w):=by
 have HD:=zeG h name hG
 show Calls _ _ _ _ (fun e w'=>zdr l name w e w')
 unfold zdr
 clear h hG
 generalize zbS l (bys name) = d at *
 by_cases h0 : 0 ≤ d
 ·have h1 : max d 0 = d:=by omega
  rw [decide_eq_true h0,h1]
  go_enter Tryz.func8,Tryz.ntmps8
  go_wp2_with (go_at_call 18;(with_reducible refine HD.mono ?_);rintro e w1 ⟨rfl,hx1⟩;have HX1:=hid hx1;clear hx1)
  go_ret2
  exact ⟨rfl,HX1.out⟩
 ·have h1 : max d 0 = 0:=by omega
  rw [h1]
  go_enter Tryz.func8,Tryz.ntmps8
  go_wp2_with (go_at_call 18;(with_reducible refine HD.mono ?_);rintro e w1 ⟨rfl,hx1⟩;have HX1:=hid hx1;clear hx1)
  go_ret2
  exact ⟨rfl,HX1.out⟩
theorem zim {S : Nat → Prop} {A : Option Addr} {n c : Nat} {l : List CutR} {w : World} (h : Row Elem.cut S w A n c l) (name : ByteArray) (hG : Gl w) :
 Calls Tryz.prog 10 #[.slice A n c,.string name] w (zdr l name w):=by
 have HD:=zkA h name hG
 show Calls _ _ _ _ (fun e w'=>zdr l name w e w')
 unfold zdr
 clear h hG
 generalize zbS l (bys name) = d at *
 by_cases h0 : 0 ≤ d
 ·have h1 : max d 0 = d:=by omega
  rw [decide_eq_true h0,h1]
  go_enter Tryz.func10,Tryz.ntmps10
  go_wp2_with (go_at_call 19;(with_reducible refine HD.mono ?_);rintro e w1 ⟨rfl,hx1⟩;have HX1:=hid hx1;clear hx1)
  go_ret2
  exact ⟨rfl,HX1.out⟩
 ·have h1 : max d 0 = 0:=by omega
  rw [h1]
  go_enter Tryz.func10,Tryz.ntmps10
  go_wp2_with (go_at_call 19;(with_reducible refine HD.mono ?_);rintro e w1 ⟨rfl,hx1⟩;have HX1:=hid hx1;clear hx1)
  go_ret2
  exact ⟨rfl,HX1.out⟩
end Go.Proofs.YtioglicfndkgiaaGreatDoor
namespace Go.Proofs.YtioglicfndkgiaaGreatDoor
theorem zqY {l : List Ent} (h : ∀ e ∈ l,zpm e) : ∀ e ∈ l,EntFits e:=fun e he=>by
 obtain ⟨h1,h2,h3⟩:=h e he
 refine ⟨by omega,by omega,by omega,fun a ha=>?_,fun a ha=>?_⟩
 ·obtain ⟨q1,q2,q3⟩:=h3 a ha
  omega
 ·obtain ⟨q1,q2,q3⟩:=h3 a ha
  omega
end Go.Proofs.YtioglicfndkgiaaGreatDoor
namespace Go.Proofs.YtioglicfndkgiaaGreatDoor
open Go.RowKit
set_option maxRecDepth 100000
theorem zn5 : "*" ++ "errors.errorString" = "*errors.errorString" := by decide
theorem zqq (u : TypeId) (h : Tryz.prog.typeName? 3 u = some "*errors.errorString") : u = 269:=
 typeName_ptr_named (nm := "errors.errorString") (by rw [zn5];kernel_rfl) (by kernel_rfl) (by decide) u (by rw [zn5];exact h)
theorem zrD : (Rows.laid_internal_strconv_uint64pow10 : DataW Unit) = Lib.tabData .u64 Lib.pow10Tab:=by kernel_rfl
theorem zmB {W : World} (h : laidMetH Tryz.prog Rows.partContextsUptoRow.laid W) (hs : W.ShapedOpen Tryz.prog) : Gl W:=by
 rw [MakeChecks.laidMetH_plain _ _ _ (by kernel_rfl)] at h
 have h2 : laidMet Tryz.prog (("internal/strconv.uint64pow10", Lib.tabData .u64 Lib.pow10Tab) :: Rows.partContextsUptoRow.laid.drop 3) W:=by
  have:=h.tail.tail
  rw [← zrD]
  exact this
 have h4 : laidMet Tryz.prog (("strconv.ErrRange", .iface "*errors.errorString" (.ptr (.agg [.lit (.string [118,97,108,117,101,32,111,117,116,32,111,102,32,114,97,110,103,101])]))) :: Rows.partContextsUptoRow.laid.drop 5) W:=h2.tail.tail
 have h5 : laidMet Tryz.prog (("strconv.ErrSyntax", .iface "*errors.errorString" (.ptr (.agg [.lit (.string [105,110,118,97,108,105,100,32,115,121,110,116,97,120])]))) :: Rows.partContextsUptoRow.laid.drop 6) W:=h4.tail
 obtain ⟨a0,s0,hv0,-,-,-⟩:=laid_sentinel h4 gRng (by kernel_rfl) Tryz.underlying134 zqq Tryz.underlying269 Tryz.underlying271 rfl rfl Tryz.underlying9 (by kernel_rfl) (by kernel_rfl)
 obtain ⟨a1,s1,hv1,-,-,-⟩:=laid_sentinel h5 gSyn (by kernel_rfl) Tryz.underlying134 zqq Tryz.underlying269 Tryz.underlying271 rfl rfl Tryz.underlying9 (by kernel_rfl) (by kernel_rfl)
 refine ⟨?_,⟨_,_,hv1⟩,⟨_,_,hv0⟩,?_⟩
 ·exact cell_of_shapedOpen_int (t:=3) (k:=.i64) (zero:=#[.int .i64 0]) hs (of_decide_eq_true (by kernel_rfl)) (by kernel_rfl) rfl (by kernel_rfl) (by kernel_rfl) Tryz.underlying3
 ·exact Lib.tabIs_of_head gPow (by kernel_rfl) Tryz.underlying262 Tryz.underlying188 (by kernel_rfl) (by kernel_rfl) h2
theorem zru : (Rows.laid_unicode_utf8_acceptRanges : DataW Unit) = Lib.acceptData:=by kernel_rfl
theorem zmy {W : World} (h : laidMetH Tryz.prog Rows.partContextsUptoRow.laid W) : Ug W:=by
 rw [MakeChecks.laidMetH_plain _ _ _ (by kernel_rfl)] at h
 have h3 : Lib.VarReads Tryz.prog W "unicode/utf8.first" Lib.firstData:=by
  rw [← Pinned.utf8First_eq]
  exact Lib.laidMet.reads h (show (("unicode/utf8.first", Rows.laid_unicode_utf8_first) : String × DataW Unit) ∈ Rows.partContextsUptoRow.laid from .tail _ (.tail _ (.tail _ (.tail _ (.tail _ (.tail _ (.head _)))))))
 have h4 : Lib.VarReads Tryz.prog W "unicode/utf8.acceptRanges" Lib.acceptData:=by
  rw [← zru]
  exact Lib.laidMet.reads h (show (("unicode/utf8.acceptRanges", Rows.laid_unicode_utf8_acceptRanges) : String × DataW Unit) ∈ Rows.partContextsUptoRow.laid from .tail _ (.tail _ (.tail _ (.head _))))
 exact utf8Tabs_of_reads Tryz.lays260 ⟨by kernel_rfl,by kernel_rfl,by kernel_rfl,by kernel_rfl,by kernel_rfl,by kernel_rfl,by kernel_rfl⟩ h3 h4
theorem zme {W : World} (h : laidMetH Tryz.prog Rows.partContextsUptoRow.laid W) (hs : W.ShapedOpen Tryz.prog) : Gu W:=⟨zmB h hs,zmy h⟩
theorem zqu {n : Int} (h : (Lit.int .i64 n).wf = true) : -9223372036854775808 ≤ n ∧ n ≤ 9223372036854775807:=by
 rw [show (Lit.int .i64 n).wf = (decide (IntKind.i64.min ≤ n) && decide (n ≤ IntKind.i64.max)) from rfl,Bool.and_eq_true,decide_eq_true_iff,decide_eq_true_iff] at h
 have e1 : IntKind.i64.min = -9223372036854775808:=by decide +kernel
 have e2 : IntKind.i64.max = 9223372036854775807:=by decide +kernel
 rw [e1,e2] at h
 exact h
end Go.Proofs.YtioglicfndkgiaaGreatDoor
