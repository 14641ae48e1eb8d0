/- Lemmas of the walk that the last text of this claim joins. -/
import Derived.Test.YtejdpadhemeldaaGreatDoorZ10
import Derived.Test.YtejdpadhemeldaaGreatDoorZ09
import Derived.Deep.DeepCutAuto
import Derived.Test.YtejdpadhemeldaaGreatDoorZ11
import Derived.Test.YtejdpadhemeldaaGreatDoorZ07
set_option maxHeartbeats 40000000
set_option linter.unusedVariables false
set_option linter.unusedSimpArgs false
namespace Go.Proofs.YtejdpadhemeldaaGreatDoor
open Go.RowKit
set_option maxRecDepth 100000
abbrev avaV (x : Ava) : Value:=.agg #[.string (str x.type),.string (str x.val)]
theorem run_load_ava (w : World) (g k : Nat) (x : Ava) (h0 : w.cell? ⟨g,k * 2,none⟩ = some (.string (str x.type))) (h1 : w.cell? ⟨g,k * 2 + 1,none⟩ = some (.string (str x.val))) :
 (Instr.loadAt 143 (.pointer (some ⟨g,k * 2,none⟩))).run Tryz.prog w = .ok (avaV x) w:=by
 go_simp
theorem run_store_ava (w : World) (g k : Nat) (x : Ava) (c0 c1 : Value) (h0 : w.cell? ⟨g,k * 2,none⟩ = some c0) (h1 : w.cell? ⟨g,k * 2 + 1,none⟩ = some c1) (f0 : w.frozen? ⟨g,k * 2,none⟩ = false) (f1 : w.frozen? ⟨g,k * 2 + 1,none⟩ = false) :
 (Instr.storeAt 143 (.pointer (some ⟨g,k * 2,none⟩)) (avaV x)).run Tryz.prog w = .ok () ((w.setCell ⟨g,k * 2,none⟩ (.string (str x.type))).setCell ⟨g,k * 2 + 1,none⟩ (.string (str x.val))):=by
 go_simp
section
variable {w w0 : World} {o : Oper} {a : Act} {K : Act → World → Prop} {Q : Exit → Act → World → Prop} {g n cap : Nat} {l : List Ava}
theorem load_ava_wp (x : Operand) (ho : o.op = .load 143 x) (k : Nat) (hx : a.eval x = .pointer (some ⟨g,k * 2,none⟩)) (hG : GrowA 143 w0 w (.slice (some ⟨g,0,none⟩) n cap) l) (y : Ava) (hy : l[k]? = some y)
 (h : K (a.put o.dst (avaV y)) w) : o.wp Tryz.prog a w K Q:=by
 have hr : (execOp a.eval o).run Tryz.prog w = .ok (.value (avaV y)) w:=by
  unfold execOp
  simp only [ho,hx,Sem.run_bind,run_load_ava w g k y (hG.at0 hy) (hG.at1 hy),Result.andThen_ok,Sem.run_pure]
 unfold Oper.wp
 rw [hr]
 exact h
theorem store_ava_wp (x y : Operand) (ho : o.op = .store 143 x y) (k : Nat) (hx : a.eval x = .pointer (some ⟨g,k * 2,none⟩)) (v : Ava) (hy : a.eval y = avaV v) (hG : GrowA 143 w0 w (.slice (some ⟨g,0,none⟩) n cap) l) (hk : k < l.length)
 (h : ∀ w',GrowA 143 w0 w' (.slice (some ⟨g,0,none⟩) n cap) (l.set k v) → Below w0.heap.size w w' → K (a.put o.dst undef) w') : o.wp Tryz.prog a w K Q:=by
 have hl : l[k]? = some l[k]:=List.getElem?_eq_getElem hk
 have hr : (execOp a.eval o).run Tryz.prog w = .ok .skip ((w.setCell ⟨g,k * 2,none⟩ (.string (str v.type))).setCell ⟨g,k * 2 + 1,none⟩ (.string (str v.val))):=by
  unfold execOp
  simp only [ho,hx,hy,Sem.run_bind,run_store_ava w g k v _ _ (hG.at0 hl) (hG.at1 hl) (hG.thaw _) (hG.thaw _),Result.andThen_ok,Sem.run_pure]
 unfold Oper.wp
 rw [hr]
 exact h _ (hG.put hk v) (((Below.refl _ _).setCell hG.new _).setCell hG.new _)
end
def cmpA (x y : Ava) : Int:=Lib.compareBytes x.type y.type
theorem cmpA_lt (x y : Ava) : (cmpA x y < 0) ↔ ltB x.type y.type = true:=by
 unfold cmpA
 rcases cmp_lt x.type y.type with ⟨h1,h2⟩ | ⟨h1,h2⟩ | ⟨h1,h2⟩
 ·rw [h1,h2];simp
 ·rw [h1,h2,ltB_irrefl];simp
 ·rw [h1,ltB_asymm _ _ h2];simp
theorem cmp_any (x y : Ava) (w : World) : Calls Tryz.prog 132 #[avaV x,avaV y] w fun e w'=>e = .returned (.int .i64 (cmpA x y)) ∧ Ext w w':=by
 have HC : ∀ w,Calls Tryz.prog 89 #[.string (str x.type),.string (str y.type)] w fun e w'=>e = .returned (.int .i64 (cmpA x y)) ∧ w' = w:=fun w=>(Tryz.strings_Compare (str x.type) (str y.type) w)
 go_enter Tryz.func132,Tryz.ntmps132
 go_wp2_with (go_at_call 89;(with_reducible refine (HC _).mono ?_);rintro e w1 ⟨rfl,rfl⟩)
 go_ret
 exact ⟨rfl,(Ext.alloc _ _).trans (Ext.alloc _ _)⟩
def Sub (l l' : List Ava) : Prop:=l'.length = l.length ∧ ∀ x ∈ l',x ∈ l
theorem Sub.refl (l : List Ava) : Sub l l:=⟨rfl,fun _ h=>h⟩
theorem Sub.trans {a b c : List Ava} (h : Sub a b) (k : Sub b c) : Sub a c:=⟨k.1.trans h.1,fun x hx=>h.2 x (k.2 x hx)⟩
theorem Sub.set {a b : List Ava} (h : Sub a b) (i : Nat) {x : Ava} (hx : x ∈ a) : Sub a (b.set i x):=by
 refine ⟨by rw [List.length_set];exact h.1,fun y hy=>?_⟩
 rcases List.mem_or_eq_of_mem_set hy with h1 | h1
 ·exact h.2 y h1
 ·rw [h1];exact hx
def swapL (l : List Ava) (i j : Nat) : List Ava:=match l[i]?,l[j]? with | some x,some y=>(l.set i y).set j x | _,_=>l
theorem swapL_at {l : List Ava} {i j : Nat} {x y : Ava} (hi : l[i]? = some x) (hj : l[j]? = some y) : swapL l i j = (l.set i y).set j x:=by unfold swapL;rw [hi,hj]
theorem swapL_sub (l : List Ava) (i j : Nat) : Sub l (swapL l i j):=by
 unfold swapL
 split
 ·rename_i x y h1 h2
  exact ((Sub.refl l).set i (List.mem_of_getElem? h2)).set j (List.mem_of_getElem? h1)
 ·exact Sub.refl l
end Go.Proofs.YtejdpadhemeldaaGreatDoor
namespace Go.Proofs.YtejdpadhemeldaaGreatDoor
open Go.RowKit
set_option maxRecDepth 100000
abbrev cmpV : Value:=.func (.func 132) #[] #[]
def ltO (l : List Ava) (i j : Nat) : Bool:=match l[i]?,l[j]? with | some x,some y=>ltB x.type y.type | _,_=>false
def sinkF (a : Nat) : Nat → List Ava → List Ava
 | 0,l=>l
 | j + 1,l=>if a < j + 1 ∧ ltO l (j + 1) j = true then sinkF a j (swapL l (j + 1) j) else l
def insF (a : Nat) : Nat → List Ava → List Ava
 | 0,l=>l
 | k + 1,l=>sinkF a (a + k + 1) (insF a k l)
theorem sinkF_sub (a : Nat) : ∀ (j : Nat) (l : List Ava),Sub l (sinkF a j l)
 | 0,l=>Sub.refl l
 | j + 1,l=>by
  unfold sinkF
  split
  ·exact (swapL_sub l _ _).trans (sinkF_sub a j _)
  ·exact Sub.refl l
theorem insF_sub (a : Nat) : ∀ (k : Nat) (l : List Ava),Sub l (insF a k l)
 | 0,l=>Sub.refl l
 | k + 1,l=>(insF_sub a k l).trans (sinkF_sub a _ _)
theorem insort_any {w0 w : World} {g n cap a b : Nat} {l : List Ava} (h : GrowA 143 w0 w (.slice (some ⟨g,0,none⟩) n cap) l) (hb : b ≤ n) (ha : a ≤ 4000000) (hn : n ≤ 4000000) :
 Calls Tryz.prog 166 #[.slice (some ⟨g,0,none⟩) n cap,.int .i64 a,.int .i64 b,cmpV] w fun e w'=>
  e = .returned (.tuple #[]) ∧ GrowA 143 w0 w' (.slice (some ⟨g,0,none⟩) n cap) (insF a (b - (a + 1)) l) ∧ Below w0.heap.size w w':=by
 have HG0:=hid h
 have HLN:=hid h.n_eq
 clear h
 go_enter Tryz.func166,Tryz.ntmps166
 go_wp2
 go_loopw [8] (fun i wr=>∃ (k : Nat),a + 1 + k ≤ max b (a + 1) ∧ i = .int .i64 ((a + 1 + k : Nat) : Int) ∧ Hid (GrowA 143 w0 wr (.slice (some ⟨g,0,none⟩) n cap) (insF a k l) ∧ Below w0.heap.size w wr)) (fun i _=>b - (intOf i).toNat)
 case atStart=>exact ⟨0,by omega,by go_num,HG0,Below.refl _ _⟩
 case round=>
  obtain ⟨k,hk,rfl,HGR⟩:=hrel
  by_cases hlt : a + 1 + k < b
  ·have hlt' : ((a + 1 + k : Nat) : Int) < (b : Int):=by omega
   have hkn : a + 1 + k < n:=by omega
   clear hk
   generalize hik : a + 1 + k = i0 at *
   have HIK:=hid hik
   clear hik
   go_wp2
   go_loopw [9] (fun i wr'=>∃ (j : Nat) (m : List Ava),j ≤ i0 ∧ a ≤ j ∧ i = .int .i64 j ∧ Hid (GrowA 143 w0 wr' (.slice (some ⟨g,0,none⟩) n cap) m ∧ Below w0.heap.size w wr') ∧ Hid (sinkF a j m = insF a (k + 1) l) ∧ Hid (m.length = n)) (fun i _=>(intOf i).toNat)
   case atStart=>exact ⟨i0,insF a k l,by omega,by have:=HIK.out;omega,rfl,HGR,by show sinkF a i0 _ = sinkF a (a + k + 1) _;rw [← HIK.out];congr 1;omega,by show _ = _;rw [(insF_sub a k l).1,HLN.out]⟩
   case round=>
    obtain ⟨j,m,hj,haj,rfl,HGM,HS,HML⟩:=hrel
    by_cases hja : a < j
    ·obtain ⟨q,hq⟩ : ∃ q,j = q + 1:=⟨j - 1,by omega⟩
     have hml:=HML.out
     obtain ⟨x,hx⟩ : ∃ x,m[j]? = some x:=⟨_,List.getElem?_eq_getElem (show j < m.length by omega)⟩
     obtain ⟨y,hy⟩ : ∃ y,m[q]? = some y:=⟨_,List.getElem?_eq_getElem (show q < m.length by omega)⟩
     have z0 : (j : Int) - 1 = (q : Int):=by omega
     have z2 : (j : Int) < (n : Int):=by omega
     have z3 : (q : Int) < (n : Int):=by omega
     have hja' : (a : Int) < (j : Int):=by omega
     have hqn : q < n:=by omega
     have HKA : Hid (j < m.length):=by show _ < _;omega
     have HKB : Hid (q < m.length):=by show _ < _;omega
     have HXA:=hid hx
     have HYB:=hid hy
     have x0:=HGM.out.1.at0 hx
     have x1:=HGM.out.1.at1 hx
     have y0:=HGM.out.1.at0 hy
     have y1:=HGM.out.1.at1 hy
     have HLT:=hid (cmpA_lt x y)
     have HSW:=hid (swapL_at hx hy)
     have HSN : Hid (sinkF a j m = if a < j ∧ ltB x.type y.type = true then sinkF a q (swapL m j q) else m):=by
      show _ = _
      rw [hq,sinkF]
      rw [hq] at hx
      unfold ltO
      rw [hx,hy]
     have hql : q < j:=by omega
     have haq : a ≤ q:=by omega
     clear hx hy hml hq
     go_wp2
     refine wp_region_plan (.read 0 (.read 1 (.read 2 (.read 3 (.read 4 (.read 5 (.read 6 (.read 7 (.read 8 (.read 9 (.read 10 (.read 11 (.read 12 (.read 13 (.main 14 (.read 15 (.read 16 .done))))))))))))))))) (by kernel_rfl) (by kernel_rfl) ?_
     intro wD hxD
     have XE : Hid (Ext wD wD):=Ext.refl _
     have HGE:=hid (HGM.out.1.later hxD)
     have px0:=cell_later (cell_later x0 _ hxD)
     have px1:=cell_later (cell_later x1 _ hxD)
     have py0:=cell_later (cell_later y0 _ hxD)
     have py1:=cell_later (cell_later y1 _ hxD)
     cases hlb : ltB x.type y.type with
     | false=>
      have hc : decide (cmpA x y < 0) = false:=by rw [decide_eq_false_iff_not,HLT.out,hlb];decide
      have HFI : Hid (insF a (k + 1) l = m):=by show _ = _;rw [← HS.out,HSN.out,hlb,if_neg (by simp)]
      clear hlb
      repeat' (first
       | ((first | refine walks_move rfl rfl ?_ | refine walks_assign rfl rfl ?_ | refine walks_skip rfl rfl ?_);simp only [Act.put,Act.eval,evs])
       | (refine walks_unwanted rfl rfl ?_;simp only [Act.put,evp])
       | (refine walks_read (v:=?_) rfl rfl (fun w' hE=>?_) ?_;rotate_left 1;(· ((try (have hEx:=Ext.trans (Hid.out XE) hE));go_simp;(try go_bits);with_reducible rfl));simp only [Act.put,evp])
       | (refine walks_alt ?_ ?_)
       | (refine walks_main rfl rfl (fun K hK=>?_);go_wp2_with ((go_at_call 132;(with_reducible refine (cmp_any x y _).mono ?_);rintro e w2 ⟨rfl,hx2⟩;have XE':=hid (Ext.trans (Hid.out XE) hx2);clear XE;have XE:=XE';clear XE'));refine hK _ _ (by first | assumption | exact Ext.alloc _ _ | exact Ext.refl _) ?_;clear hK K;try simp only [Act.put,evp]))
      refine walks_done ?_
      clear px0 px1 py0 py1 x0 x1 y0 y1
      go_wp2
      refine ⟨⟨k + 1,by have:=HIK.out;omega,by have:=HIK.out;go_num,?_⟩,by have:=HIK.out;simp [intOf];omega⟩
      rw [HFI.out]
      exact ⟨HGE.out.later XE.out,Below.trans HGM.out.2 (Below.mono (hxD.trans XE.out) (ext_sz HGM.out.1.ext))⟩
     | true=>
      have hc : cmpA x y < 0:=HLT.out.2 hlb
      have HFI : Hid (sinkF a q (swapL m j q) = insF a (k + 1) l):=by show _ = _;rw [← HS.out,HSN.out,hlb,if_pos ⟨hja,rfl⟩]
      clear hlb
      repeat' (first
       | ((first | refine walks_move rfl rfl ?_ | refine walks_assign rfl rfl ?_ | refine walks_skip rfl rfl ?_);simp only [Act.put,Act.eval,evs])
       | (refine walks_unwanted rfl rfl ?_;simp only [Act.put,evp])
       | (refine walks_read (v:=?_) rfl rfl (fun w' hE=>?_) ?_;rotate_left 1;(· ((try (have hEx:=Ext.trans (Hid.out XE) hE));go_simp;(try go_bits);with_reducible rfl));simp only [Act.put,evp])
       | (refine walks_alt ?_ ?_)
       | (refine walks_main rfl rfl (fun K hK=>?_);go_wp2_with ((go_at_call 132;(with_reducible refine (cmp_any x y _).mono ?_);rintro e w2 ⟨rfl,hx2⟩;have XE':=hid (Ext.trans (Hid.out XE) hx2);clear XE;have XE:=XE';clear XE'));refine hK _ _ (by first | assumption | exact Ext.alloc _ _ | exact Ext.refl _) ?_;clear hK K;try simp only [Act.put,evp]))
      refine walks_done ?_
      clear px0 px1 py0 py1 x0 x1 y0 y1
      have HGW:=hid (HGE.out.later XE.out)
      have HBW : Hid (Below w0.heap.size w w2):=Below.trans HGM.out.2 (Below.mono (hxD.trans XE.out) (ext_sz HGM.out.1.ext))
      clear hxD XE
      go_wp2
      refine wp_region_planB w0.heap.size (.read 0 (.read 1 (.read 2 (.read 3 (.read 4 (.read 5 (.read 6 (.read 7 (.read 8 (.read 10 (.read 11 (.read 12 (.alt 9 (.main 13 (.read 14 (.main 15 (.read 16 (.main 17 .done))))) (.main 13 (.main 9 (.read 14 (.main 15 (.read 16 (.main 17 .done))))))))))))))))))) (by kernel_rfl) (by kernel_rfl) ?_
      intro wD hxD
      have XB : Hid (Below w0.heap.size wD wD):=Below.refl _ _
      have HGD:=hid (HGW.out.later hxD)
      repeat' (first
       | ((first | refine walksB_move rfl rfl ?_ | refine walksB_assign rfl rfl ?_ | refine walksB_skip rfl rfl ?_);simp only [Act.put,Act.eval,evs])
       | (refine walksB_unwanted rfl rfl ?_;simp only [Act.put,evp])
       | (refine walksB_read (v:=?_) rfl rfl (fun w' hE=>?_) ?_;rotate_left 1;(· ((try (have hEx:=Below.trans (Hid.out XB) hE));go_simp;(try go_bits);with_reducible rfl));simp only [Act.put,evp])
       | (refine walksB_main rfl rfl (fun K hK=>?_);(first | (refine load_ava_wp _ rfl (j) rfl HGD.out x HXA.out ?_) | (refine load_ava_wp _ rfl (q) rfl HGD.out y HYB.out ?_) | (refine store_ava_wp _ _ rfl (j) rfl y rfl HGD.out HKA.out ?_;intro w7 hg7 hb7;have HG7:=hid hg7;clear hg7;have XB':=hid (Below.trans (Hid.out XB) (hb7));clear XB;have XB:=XB';clear XB') | (refine store_ava_wp _ _ rfl (q) rfl x rfl HG7.out (by rw [List.length_set];exact HKB.out) ?_;intro w8 hg8 hb8;have HG8:=hid hg8;clear hg8;have XB':=hid (Below.trans (Hid.out XB) (hb8));clear XB;have XB:=XB';clear XB'));refine hK _ _ (by first | assumption | exact Below.refl _ _ | exact Below.mono (Ext.alloc _ _) (Hid.out HSW) | exact Below.setCell (p:=⟨_,_,_⟩) (Below.refl _ _) (Nat.le_refl _) _) ?_;clear hK K;try simp only [Act.put,evp])
       | (refine walksB_alt ?_ ?_)
       | (refine walksB_main rfl rfl (fun K hK=>?_);go_wp2_with (fail);refine hK _ _ (by first | assumption | exact Below.refl _ _ | exact Below.mono (Ext.alloc _ _) (Hid.out HSW) | exact Below.setCell (p:=⟨_,_,_⟩) (Below.refl _ _) (Nat.le_refl _) _) ?_;clear hK K;try simp only [Act.put,evp]))
      all_goals
       refine walksB_done ?_
       rw [← HSW.out] at HG8
       have HBX:=hid (Below.trans HBW.out (Below.trans (Below.mono hxD (ext_sz HGW.out.ext)) XB.out))
       go_wp2
       exact ⟨⟨q,_,by omega,haq,rfl,⟨HG8.out,HBX.out⟩,HFI,by show _ = _;rw [(swapL_sub m j q).1];exact HML.out⟩,by simp [intOf];omega⟩
    ·obtain rfl : j = a:=by omega
     have hja' : decide (((j : Nat) : Int) < (j : Int)) = false:=by rw [decide_eq_false_iff_not];omega
     have HFI : Hid (insF j (k + 1) l = m):=by
      show _ = _
      rw [← HS.out]
      cases j with
      | zero=>rfl
      | succ q=>rw [sinkF,if_neg (by omega)]
     clear hja
     go_wp2
     refine wp_region_plan (.read 0 (.read 1 (.read 2 (.read 3 (.read 4 (.read 5 (.read 6 (.read 7 (.read 8 (.read 9 (.read 10 (.read 11 (.read 12 (.read 13 (.main 14 (.read 15 (.read 16 .done))))))))))))))))) (by kernel_rfl) (by kernel_rfl) ?_
     intro wD hxD
     have XE : Hid (Ext wD wD):=Ext.refl _
     repeat' (first
      | ((first | refine walks_move rfl rfl ?_ | refine walks_assign rfl rfl ?_ | refine walks_skip rfl rfl ?_);simp only [Act.put,Act.eval,evs])
      | (refine walks_unwanted rfl rfl ?_;simp only [Act.put,evp])
      | (refine walks_read (v:=?_) rfl rfl (fun w' hE=>?_) ?_;rotate_left 1;(· ((try (have hEx:=Ext.trans (Hid.out XE) hE));go_simp;(try go_bits);with_reducible rfl));simp only [Act.put,evp])
      | (refine walks_alt ?_ ?_)
      | (refine walks_main rfl rfl (fun K hK=>?_);go_wp2_with (fail);refine hK _ _ (by first | assumption | exact Ext.alloc _ _ | exact Ext.refl _) ?_;clear hK K;try simp only [Act.put,evp]))
     refine walks_done ?_
     have HBX:=hid (Below.trans HGM.out.2 (Below.mono (hxD.trans XE.out) (ext_sz HGM.out.1.ext)))
     have HGE:=hid (HGM.out.1.later (hxD.trans XE.out))
     go_wp2
     refine ⟨⟨k + 1,by have:=HIK.out;omega,by have:=HIK.out;go_num,?_⟩,by have:=HIK.out;simp [intOf];omega⟩
     rw [HFI.out]
     exact ⟨HGE.out,HBX.out⟩
  ·have hlt' : ¬ ((a + 1 + k : Nat) : Int) < (b : Int):=by omega
   have HFI : Hid (b - (a + 1) = k):=by show _ = _;omega
   go_wp2
   go_end0
   rw [HFI.out]
   exact ⟨rfl,HGR.out⟩
def SubSays (w0 w : World) (g n cap : Nat) (l : List Ava) (e : Ending) (w' : World) : Prop:=
 e = .returned (.tuple #[]) ∧ (∃ l',GrowA 143 w0 w' (.slice (some ⟨g,0,none⟩) n cap) l' ∧ Sub l l') ∧ Below w0.heap.size w w'
theorem swaprange_any {w0 w : World} {g n cap a b c : Nat} {l : List Ava} (h : GrowA 143 w0 w (.slice (some ⟨g,0,none⟩) n cap) l) (ha : a + c ≤ n) (hb : b + c ≤ n) (hn : n ≤ 4000000) :
 Calls Tryz.prog 212 #[.slice (some ⟨g,0,none⟩) n cap,.int .i64 a,.int .i64 b,.int .i64 c,cmpV] w (SubSays w0 w g n cap l):=by
 have HG0:=hid h
 have HLN:=hid h.n_eq
 clear h
 go_enter Tryz.func212,Tryz.ntmps212
 go_wp2
 go_loopw [10] (fun i wr=>∃ (j : Nat) (m : List Ava),j ≤ c ∧ i = .int .i64 j ∧ Hid (GrowA 143 w0 wr (.slice (some ⟨g,0,none⟩) n cap) m ∧ Below w0.heap.size w wr) ∧ Hid (Sub l m)) (fun i _=>c - (intOf i).toNat)
 case atStart=>exact ⟨0,l,by omega,rfl,⟨HG0,Below.refl _ _⟩,Sub.refl l⟩
 case round=>
  obtain ⟨j,m,hj,rfl,HGM,HS⟩:=hrel
  by_cases hlt : j < c
  ·have hlt' : (j : Int) < (c : Int):=by omega
   have hml : m.length = n:=by rw [HS.out.1,HLN.out]
   obtain ⟨p,hp⟩ : ∃ p,p = a + j:=⟨_,rfl⟩
   obtain ⟨q,hq⟩ : ∃ q,q = b + j:=⟨_,rfl⟩
   have z0 : (a : Int) + (j : Int) = (p : Int):=by omega
   have z1 : (b : Int) + (j : Int) = (q : Int):=by omega
   have hpn : p < n:=by omega
   have hqn : q < n:=by omega
   have z2 : (p : Int) < (n : Int):=by omega
   have z3 : (q : Int) < (n : Int):=by omega
   obtain ⟨x,hx⟩ : ∃ x,m[p]? = some x:=⟨_,List.getElem?_eq_getElem (show p < m.length by omega)⟩
   obtain ⟨y,hy⟩ : ∃ y,m[q]? = some y:=⟨_,List.getElem?_eq_getElem (show q < m.length by omega)⟩
   have HKA : Hid (p < m.length):=by show _ < _;omega
   have HKB : Hid (q < m.length):=by show _ < _;omega
   have HXA:=hid hx
   have HYB:=hid hy
   have HSW:=hid (swapL_at hx hy)
   have HS2:=hid (HS.out.trans (swapL_sub m p q))
   clear hx hy hml hp hq
   go_wp2
   refine wp_region_planB w0.heap.size (.read 0 (.read 1 (.read 2 (.read 3 (.read 4 (.read 5 (.read 6 (.read 7 (.read 8 (.read 9 (.read 10 (.read 11 (.read 12 (.read 14 (.read 15 (.read 16 (.read 17 (.read 18 (.alt 13 (.main 19 (.read 20 (.main 21 (.read 22 (.main 23 .done))))) (.main 19 (.main 13 (.read 20 (.main 21 (.read 22 (.main 23 .done))))))))))))))))))))))))) (by kernel_rfl) (by kernel_rfl) ?_
   intro wD hxD
   have XB : Hid (Below w0.heap.size wD wD):=Below.refl _ _
   have HGD:=hid (HGM.out.1.later hxD)
   repeat' (first
    | ((first | refine walksB_move rfl rfl ?_ | refine walksB_assign rfl rfl ?_ | refine walksB_skip rfl rfl ?_);simp only [Act.put,Act.eval,evs])
    | (refine walksB_unwanted rfl rfl ?_;simp only [Act.put,evp])
    | (refine walksB_read (v:=?_) rfl rfl (fun w' hE=>?_) ?_;rotate_left 1;(· ((try (have hEx:=Below.trans (Hid.out XB) hE));go_simp;(try go_bits);with_reducible rfl));simp only [Act.put,evp])
    | (refine walksB_main rfl rfl (fun K hK=>?_);(first | (refine load_ava_wp _ rfl (p) rfl HGD.out x HXA.out ?_) | (refine load_ava_wp _ rfl (q) rfl HGD.out y HYB.out ?_) | (refine store_ava_wp _ _ rfl (p) rfl y rfl HGD.out HKA.out ?_;intro w7 hg7 hb7;have HG7:=hid hg7;clear hg7;have XB':=hid (Below.trans (Hid.out XB) (hb7));clear XB;have XB:=XB';clear XB') | (refine store_ava_wp _ _ rfl (q) rfl x rfl HG7.out (by rw [List.length_set];exact HKB.out) ?_;intro w8 hg8 hb8;have HG8:=hid hg8;clear hg8;have XB':=hid (Below.trans (Hid.out XB) (hb8));clear XB;have XB:=XB';clear XB'));refine hK _ _ (by first | assumption | exact Below.refl _ _ | exact Below.mono (Ext.alloc _ _) (Hid.out HSW) | exact Below.setCell (p:=⟨_,_,_⟩) (Below.refl _ _) (Nat.le_refl _) _) ?_;clear hK K;try simp only [Act.put,evp])
    | (refine walksB_alt ?_ ?_)
    | (refine walksB_main rfl rfl (fun K hK=>?_);go_wp2_with (fail);refine hK _ _ (by first | assumption | exact Below.refl _ _ | exact Below.mono (Ext.alloc _ _) (Hid.out HSW) | exact Below.setCell (p:=⟨_,_,_⟩) (Below.refl _ _) (Nat.le_refl _) _) ?_;clear hK K;try simp only [Act.put,evp]))
   all_goals
    refine walksB_done ?_
    rw [← HSW.out] at HG8
    have HBX:=hid (Below.trans HGM.out.2 (Below.trans (Below.mono hxD (ext_sz HGM.out.1.ext)) XB.out))
    go_wp2
    exact ⟨⟨j + 1,_,by omega,by go_num,⟨HG8.out,HBX.out⟩,HS2⟩,by simp [intOf];omega⟩
  ·obtain rfl : j = c:=by omega
   go_wp2
   go_end0
   exact ⟨rfl,⟨m,HGM.out.1,HS.out⟩,HGM.out.2⟩
theorem rotate_any {w0 w : World} {g n cap a m b : Nat} {l : List Ava} (h : GrowA 143 w0 w (.slice (some ⟨g,0,none⟩) n cap) l) (h1 : a < m) (h2 : m < b) (h3 : b ≤ n) (hn : n ≤ 4000000) :
 Calls Tryz.prog 193 #[.slice (some ⟨g,0,none⟩) n cap,.int .i64 a,.int .i64 m,.int .i64 b,cmpV] w (SubSays w0 w g n cap l):=by
 have HG0:=hid h
 clear h
 go_enter Tryz.func193,Tryz.ntmps193
 go_wp2
 go_loopw [10,11] (fun u v wr=>∃ (i j : Nat) (k : List Ava),1 ≤ i ∧ 1 ≤ j ∧ i ≤ m ∧ m + j ≤ n ∧ u = .int .i64 i ∧ v = .int .i64 j ∧ Hid (GrowA 143 w0 wr (.slice (some ⟨g,0,none⟩) n cap) k ∧ Below w0.heap.size w wr) ∧ Hid (Sub l k)) (fun u v _=>(intOf u).toNat + (intOf v).toNat)
 case atStart=>exact ⟨m - a,b - m,l,by omega,by omega,by omega,by omega,by go_num,by go_num,⟨HG0,Below.refl _ _⟩,Sub.refl l⟩
 case round=>
  obtain ⟨i,j,k,hi,hj,him,hjn,rfl,rfl,HGK,HS⟩:=hrel
  obtain ⟨p,hp⟩ : ∃ p,p = m - i:=⟨_,rfl⟩
  have z0 : (m : Int) - (i : Int) = (p : Int):=by omega
  have hp1 : p + i ≤ m:=by omega
  have hp2 : m ≤ p + i:=by omega
  clear hp
  by_cases hij : i = j
  ·subst hij
   have t0 : ((i : Int) != (i : Int)) = false:=by simp
   go_wp2_with (go_at_call 212;(with_reducible refine (swaprange_any (a:=p) (b:=m) (c:=i) HGK.out.1 (by omega) (by omega) hn).mono ?_);rintro e w3 ⟨rfl,⟨l3,hg3,hs3⟩,hb3⟩;have HG3:=hid hg3;have HS3:=hid hs3;have HB3:=hid hb3;clear hg3 hs3 hb3)
   go_end0
   exact ⟨rfl,⟨l3,HG3.out,HS.out.trans HS3.out⟩,Below.trans HGK.out.2 HB3.out⟩
  ·have t0 : ((i : Int) != (j : Int)) = true:=by rw [bne_iff_ne];omega
   by_cases hgt : j < i
   ·have t1 : (j : Int) < (i : Int):=by omega
    clear hij
    go_wp2_with (go_at_call 212;(with_reducible refine (swaprange_any (a:=p) (b:=m) (c:=j) HGK.out.1 (by omega) (by omega) hn).mono ?_);rintro e w3 ⟨rfl,⟨l3,hg3,hs3⟩,hb3⟩;have HG3:=hid hg3;have HS3:=hid hs3;have HB3:=hid hb3;clear hg3 hs3 hb3)
    exact ⟨⟨i - j,j,l3,by omega,by omega,by omega,by omega,by go_num,rfl,⟨HG3.out,Below.trans HGK.out.2 HB3.out⟩,HS.out.trans HS3.out⟩,by simp [intOf];omega⟩
   ·have t1 : ¬ (j : Int) < (i : Int):=by omega
    obtain ⟨q,hq⟩ : ∃ q,q = m + j - i:=⟨_,rfl⟩
    have z1 : (m : Int) + (j : Int) - (i : Int) = (q : Int):=by omega
    have hq1 : q + i ≤ m + j:=by omega
    have hq2 : m + j ≤ q + i:=by omega
    clear hq
    go_wp2_with (go_at_call 212;(with_reducible refine (swaprange_any (a:=p) (b:=q) (c:=i) HGK.out.1 (by omega) (by omega) hn).mono ?_);rintro e w3 ⟨rfl,⟨l3,hg3,hs3⟩,hb3⟩;have HG3:=hid hg3;have HS3:=hid hs3;have HB3:=hid hb3;clear hg3 hs3 hb3)
    exact ⟨⟨i,j - i,l3,by omega,by omega,by omega,by omega,rfl,by go_num,⟨HG3.out,Below.trans HGK.out.2 HB3.out⟩,HS.out.trans HS3.out⟩,by simp [intOf];omega⟩
theorem sym_one {w0 w : World} {g n cap a m b : Nat} {l : List Ava} (h : GrowA 143 w0 w (.slice (some ⟨g,0,none⟩) n cap) l) (h1 : a < m) (h2 : m < b) (h3 : b ≤ n) (hn : n ≤ 4000000) (hma : m = a + 1) :
 Calls Tryz.prog 167 #[.slice (some ⟨g,0,none⟩) n cap,.int .i64 a,.int .i64 m,.int .i64 b,cmpV] w (SubSays w0 w g n cap l):=by
 have HG0:=hid h
 have HML : Hid (l.length = n):=by show _ = _;rw [h.n_eq]
 clear h
 have t0 : ((m : Int) - (a : Int) == 1) = true:=by rw [beq_iff_eq];omega
 have hm1 : m ≤ a + 1:=by omega
 clear hma
 go_enter Tryz.func167,Tryz.ntmps167
 go_wp2
 go_loopw [10,11] (fun u v wr=>∃ (i j : Nat),m ≤ i ∧ i ≤ j ∧ j ≤ b ∧ u = .int .i64 i ∧ v = .int .i64 j ∧ Hid (Ext w wr)) (fun u v _=>(intOf v).toNat - (intOf u).toNat)
 case atStart=>exact ⟨m,b,by omega,by omega,by omega,rfl,rfl,Ext.refl _⟩
 case round=>
  obtain ⟨i,j,hi,hij,hj,rfl,rfl,HX⟩:=hrel
  have HGM:=hid (HG0.out.later HX.out)
  by_cases hlt : i < j
  ·have hlt' : (i : Int) < (j : Int):=by omega
   obtain ⟨q,hq⟩ : ∃ q,q = (i + j) / 2:=⟨_,rfl⟩
   have hq1 : i ≤ q:=by omega
   have hq2 : q < j:=by omega
   have zq : ((i : Int) + (j : Int)) / 2 = (q : Int):=by omega
   clear hq
   have hml:=HML.out
   obtain ⟨x,hx⟩ : ∃ x,l[q]? = some x:=⟨_,List.getElem?_eq_getElem (show q < l.length by omega)⟩
   obtain ⟨y,hy⟩ : ∃ y,l[a]? = some y:=⟨_,List.getElem?_eq_getElem (show a < l.length by omega)⟩
   have z2 : (q : Int) < (n : Int):=by omega
   have z3 : (a : Int) < (n : Int):=by omega
   have z4 : q < n:=by omega
   have z5 : a < n:=by omega
   have x0:=HGM.out.at0 hx
   have x1:=HGM.out.at1 hx
   have y0:=HGM.out.at0 hy
   have y1:=HGM.out.at1 hy
   clear hx hy hml
   cases hcb : decide (cmpA x y < 0) with
   | false=>
    go_wp2
    refine wp_region_plan (.read 0 (.read 1 (.read 2 (.read 3 (.read 4 (.read 5 (.read 6 (.read 7 (.read 8 (.main 9 (.read 10 .done))))))))))) (by kernel_rfl) (by kernel_rfl) ?_
    intro wD hxD
    have XE : Hid (Ext wD wD):=Ext.refl _
    have px0:=cell_later (cell_later x0 _ hxD)
    have px1:=cell_later (cell_later x1 _ hxD)
    have py0:=cell_later (cell_later y0 _ hxD)
    have py1:=cell_later (cell_later y1 _ hxD)
    repeat' (first
     | ((first | refine walks_move rfl rfl ?_ | refine walks_assign rfl rfl ?_ | refine walks_skip rfl rfl ?_);simp only [Act.put,Act.eval,evs])
     | (refine walks_unwanted rfl rfl ?_;simp only [Act.put,evp])
     | (refine walks_read (v:=?_) rfl rfl (fun w' hE=>?_) ?_;rotate_left 1;(· ((try (have hEx:=Ext.trans (Hid.out XE) hE));go_simp;(try go_bits);with_reducible rfl));simp only [Act.put,evp])
     | (refine walks_alt ?_ ?_)
     | (refine walks_main rfl rfl (fun K hK=>?_);go_wp2_with ((go_at_call 132;(with_reducible refine (cmp_any x y _).mono ?_);rintro e w2 ⟨rfl,hx2⟩;have XE':=hid (Ext.trans (Hid.out XE) hx2);clear XE;have XE:=XE';clear XE'));refine hK _ _ (by first | assumption | exact Ext.alloc _ _ | exact Ext.refl _) ?_;clear hK K;try simp only [Act.put,evp]))
    refine walks_done ?_
    have HXW:=hid (hxD.trans XE.out)
    clear px0 px1 py0 py1 x0 x1 y0 y1
    go_wp2
    exact ⟨⟨i,q,by omega,by omega,by omega,rfl,rfl,HX.out.trans HXW.out⟩,by simp [intOf];omega⟩
   | true=>
    have hc:=of_decide_eq_true hcb
    clear hcb
    go_wp2
    refine wp_region_plan (.read 0 (.read 1 (.read 2 (.read 3 (.read 4 (.read 5 (.read 6 (.read 7 (.read 8 (.main 9 (.read 10 .done))))))))))) (by kernel_rfl) (by kernel_rfl) ?_
    intro wD hxD
    have XE : Hid (Ext wD wD):=Ext.refl _
    have px0:=cell_later (cell_later x0 _ hxD)
    have px1:=cell_later (cell_later x1 _ hxD)
    have py0:=cell_later (cell_later y0 _ hxD)
    have py1:=cell_later (cell_later y1 _ hxD)
    repeat' (first
     | ((first | refine walks_move rfl rfl ?_ | refine walks_assign rfl rfl ?_ | refine walks_skip rfl rfl ?_);simp only [Act.put,Act.eval,evs])
     | (refine walks_unwanted rfl rfl ?_;simp only [Act.put,evp])
     | (refine walks_read (v:=?_) rfl rfl (fun w' hE=>?_) ?_;rotate_left 1;(· ((try (have hEx:=Ext.trans (Hid.out XE) hE));go_simp;(try go_bits);with_reducible rfl));simp only [Act.put,evp])
     | (refine walks_alt ?_ ?_)
     | (refine walks_main rfl rfl (fun K hK=>?_);go_wp2_with ((go_at_call 132;(with_reducible refine (cmp_any x y _).mono ?_);rintro e w2 ⟨rfl,hx2⟩;have XE':=hid (Ext.trans (Hid.out XE) hx2);clear XE;have XE:=XE';clear XE'));refine hK _ _ (by first | assumption | exact Ext.alloc _ _ | exact Ext.refl _) ?_;clear hK K;try simp only [Act.put,evp]))
    refine walks_done ?_
    have HXW:=hid (hxD.trans XE.out)
    clear px0 px1 py0 py1 x0 x1 y0 y1
    go_wp2
    exact ⟨⟨q + 1,j,by omega,by omega,by omega,by go_num,rfl,HX.out.trans HXW.out⟩,by simp [intOf];omega⟩
  ·have hlt' : ¬ (i : Int) < (j : Int):=by omega
   obtain ⟨i1,hi1⟩ : ∃ i1,i1 = i - 1:=⟨_,rfl⟩
   have zi : (i : Int) - 1 = (i1 : Int):=by omega
   have hb1 : a ≤ i1:=by omega
   have hb2 : i1 < n:=by omega
   clear hi1
   have HBR : Hid (Below w0.heap.size w wr):=Below.mono HX.out (ext_sz HG0.out.ext)
   go_wp2
   go_loopw [13] (fun u wq=>∃ (k : Nat) (m1 : List Ava),a ≤ k ∧ k ≤ i1 ∧ u = .int .i64 k ∧ Hid (GrowA 143 w0 wq (.slice (some ⟨g,0,none⟩) n cap) m1 ∧ Below w0.heap.size w wq) ∧ Hid (Sub l m1)) (fun u _=>i1 - (intOf u).toNat)
   case atStart=>exact ⟨a,l,by omega,by omega,rfl,⟨HGM.out,HBR.out⟩,Sub.refl l⟩
   case round=>
    obtain ⟨k,m1,hk1,hk2,rfl,HGK,HS⟩:=hrel
    by_cases hlt2 : k < i1
    ·have hlt2' : (k : Int) < (i1 : Int):=by omega
     obtain ⟨k1,hk3⟩ : ∃ k1,k1 = k + 1:=⟨_,rfl⟩
     have zk : (k : Int) + 1 = (k1 : Int):=by omega
     have hk4 : k1 ≤ i1:=by omega
     have hk5 : k < k1:=by omega
     have HM1 : Hid (m1.length = n):=by show _ = _;rw [HS.out.1];exact HML.out
     clear HML
     have HML:=HM1
     have hml:=HML.out
     obtain ⟨x,hx⟩ : ∃ x,m1[k]? = some x:=⟨_,List.getElem?_eq_getElem (show k < m1.length by omega)⟩
     obtain ⟨y,hy⟩ : ∃ y,m1[k1]? = some y:=⟨_,List.getElem?_eq_getElem (show k1 < m1.length by omega)⟩
     have z2 : (k : Int) < (n : Int):=by omega
     have z3 : (k1 : Int) < (n : Int):=by omega
     have z4 : k < n:=by omega
     have z5 : k1 < n:=by omega
     have HKA : Hid (k < m1.length):=by show _ < _;omega
     have HKB : Hid (k1 < m1.length):=by show _ < _;omega
     have HXA:=hid hx
     have HYB:=hid hy
     have HSW:=hid (swapL_at hx hy)
     have HS2:=hid (HS.out.trans (swapL_sub m1 k k1))
     clear hx hy hml
     clear hk3
     go_wp2
     refine wp_region_planB w0.heap.size (.read 0 (.read 1 (.read 2 (.read 3 (.read 4 (.read 5 (.read 6 (.read 7 (.read 8 (.read 10 (.read 11 (.read 12 (.alt 9 (.main 13 (.read 14 (.main 15 (.read 16 (.main 17 .done))))) (.main 13 (.main 9 (.read 14 (.main 15 (.read 16 (.main 17 .done))))))))))))))))))) (by kernel_rfl) (by kernel_rfl) ?_
     intro wD hxD
     have XB : Hid (Below w0.heap.size wD wD):=Below.refl _ _
     have HGD:=hid (HGK.out.1.later hxD)
     repeat' (first
      | ((first | refine walksB_move rfl rfl ?_ | refine walksB_assign rfl rfl ?_ | refine walksB_skip rfl rfl ?_);simp only [Act.put,Act.eval,evs])
      | (refine walksB_unwanted rfl rfl ?_;simp only [Act.put,evp])
      | (refine walksB_read (v:=?_) rfl rfl (fun w' hE=>?_) ?_;rotate_left 1;(· ((try (have hEx:=Below.trans (Hid.out XB) hE));go_simp;(try go_bits);with_reducible rfl));simp only [Act.put,evp])
      | (refine walksB_main rfl rfl (fun K hK=>?_);(first | (refine load_ava_wp _ rfl (k) rfl HGD.out x HXA.out ?_) | (refine load_ava_wp _ rfl (k1) rfl HGD.out y HYB.out ?_) | (refine store_ava_wp _ _ rfl (k) rfl y rfl HGD.out HKA.out ?_;intro w7 hg7 hb7;have HG7:=hid hg7;clear hg7;have XB':=hid (Below.trans (Hid.out XB) (hb7));clear XB;have XB:=XB';clear XB') | (refine store_ava_wp _ _ rfl (k1) rfl x rfl HG7.out (by rw [List.length_set];exact HKB.out) ?_;intro w8 hg8 hb8;have HG8:=hid hg8;clear hg8;have XB':=hid (Below.trans (Hid.out XB) (hb8));clear XB;have XB:=XB';clear XB'));refine hK _ _ (by first | assumption | exact Below.refl _ _ | exact Below.mono (Ext.alloc _ _) (Hid.out HSW) | exact Below.setCell (p:=⟨_,_,_⟩) (Below.refl _ _) (Nat.le_refl _) _) ?_;clear hK K;try simp only [Act.put,evp])
      | (refine walksB_alt ?_ ?_)
      | (refine walksB_main rfl rfl (fun K hK=>?_);go_wp2_with (fail);refine hK _ _ (by first | assumption | exact Below.refl _ _ | exact Below.mono (Ext.alloc _ _) (Hid.out HSW) | exact Below.setCell (p:=⟨_,_,_⟩) (Below.refl _ _) (Nat.le_refl _) _) ?_;clear hK K;try simp only [Act.put,evp]))
     all_goals
      refine walksB_done ?_
      rw [← HSW.out] at HG8
      have HBX:=hid (Below.trans HGK.out.2 (Below.trans (Below.mono hxD (ext_sz HGK.out.1.ext)) XB.out))
      go_wp2
      exact ⟨⟨k1,_,by omega,by omega,rfl,⟨HG8.out,HBX.out⟩,HS2⟩,by simp [intOf];omega⟩
    ·have hlt2' : ¬ (k : Int) < (i1 : Int):=by omega
     go_wp2
     (try simp only [Exit.inBlock,Exit.then])
     refine bodyPost_ret (results_none rfl _ _ _) rfl ?_
     exact ⟨rfl,⟨m1,HGK.out.1,HS.out⟩,HGK.out.2⟩
theorem sym_two {w0 w : World} {g n cap a m b : Nat} {l : List Ava} (h : GrowA 143 w0 w (.slice (some ⟨g,0,none⟩) n cap) l) (h1 : a < m) (h2 : m < b) (h3 : b ≤ n) (hn : n ≤ 4000000) (hma : ¬ m = a + 1) (hbm : b = m + 1) :
 Calls Tryz.prog 167 #[.slice (some ⟨g,0,none⟩) n cap,.int .i64 a,.int .i64 m,.int .i64 b,cmpV] w (SubSays w0 w g n cap l):=by
 have HG0:=hid h
 have HML : Hid (l.length = n):=by show _ = _;rw [h.n_eq]
 clear h
 have t0 : ((m : Int) - (a : Int) == 1) = false:=by rw [beq_eq_false_iff_ne];omega
 have t1 : ((b : Int) - (m : Int) == 1) = true:=by rw [beq_iff_eq];omega
 have hbm1 : b ≤ m + 1:=by omega
 have hmn : m < n:=by omega
 have hmn' : (m : Int) < (n : Int):=by omega
 clear hma hbm
 go_enter Tryz.func167,Tryz.ntmps167
 go_wp2
 go_loopw [14,15] (fun u v wr=>∃ (i j : Nat),a ≤ i ∧ i ≤ j ∧ j ≤ m ∧ u = .int .i64 i ∧ v = .int .i64 j ∧ Hid (Ext w wr)) (fun u v _=>(intOf v).toNat - (intOf u).toNat)
 case atStart=>exact ⟨a,m,by omega,by omega,by omega,rfl,rfl,Ext.refl _⟩
 case round=>
  obtain ⟨i,j,hi,hij,hj,rfl,rfl,HX⟩:=hrel
  have HGM:=hid (HG0.out.later HX.out)
  by_cases hlt : i < j
  ·have hlt' : (i : Int) < (j : Int):=by omega
   obtain ⟨q,hq⟩ : ∃ q,q = (i + j) / 2:=⟨_,rfl⟩
   have hq1 : i ≤ q:=by omega
   have hq2 : q < j:=by omega
   have zq : ((i : Int) + (j : Int)) / 2 = (q : Int):=by omega
   clear hq
   have hml:=HML.out
   obtain ⟨x,hx⟩ : ∃ x,l[m]? = some x:=⟨_,List.getElem?_eq_getElem (show m < l.length by omega)⟩
   obtain ⟨y,hy⟩ : ∃ y,l[q]? = some y:=⟨_,List.getElem?_eq_getElem (show q < l.length by omega)⟩
   have z2 : (m : Int) < (n : Int):=by omega
   have z3 : (q : Int) < (n : Int):=by omega
   have z4 : m < n:=by omega
   have z5 : q < n:=by omega
   have x0:=HGM.out.at0 hx
   have x1:=HGM.out.at1 hx
   have y0:=HGM.out.at0 hy
   have y1:=HGM.out.at1 hy
   clear hx hy hml
   cases hcb : decide (cmpA x y < 0) with
   | false=>
    go_wp2
    refine wp_region_plan (.read 0 (.read 1 (.read 2 (.read 3 (.read 4 (.read 5 (.read 6 (.read 7 (.read 8 (.main 9 (.read 10 (.read 11 .done)))))))))))) (by kernel_rfl) (by kernel_rfl) ?_
    intro wD hxD
    have XE : Hid (Ext wD wD):=Ext.refl _
    have px0:=cell_later (cell_later x0 _ hxD)
    have px1:=cell_later (cell_later x1 _ hxD)
    have py0:=cell_later (cell_later y0 _ hxD)
    have py1:=cell_later (cell_later y1 _ hxD)
    repeat' (first
     | ((first | refine walks_move rfl rfl ?_ | refine walks_assign rfl rfl ?_ | refine walks_skip rfl rfl ?_);simp only [Act.put,Act.eval,evs])
     | (refine walks_unwanted rfl rfl ?_;simp only [Act.put,evp])
     | (refine walks_read (v:=?_) rfl rfl (fun w' hE=>?_) ?_;rotate_left 1;(· ((try (have hEx:=Ext.trans (Hid.out XE) hE));go_simp;(try go_bits);with_reducible rfl));simp only [Act.put,evp])
     | (refine walks_alt ?_ ?_)
     | (refine walks_main rfl rfl (fun K hK=>?_);go_wp2_with ((go_at_call 132;(with_reducible refine (cmp_any x y _).mono ?_);rintro e w2 ⟨rfl,hx2⟩;have XE':=hid (Ext.trans (Hid.out XE) hx2);clear XE;have XE:=XE';clear XE'));refine hK _ _ (by first | assumption | exact Ext.alloc _ _ | exact Ext.refl _) ?_;clear hK K;try simp only [Act.put,evp]))
    refine walks_done ?_
    have HXW:=hid (hxD.trans XE.out)
    clear px0 px1 py0 py1 x0 x1 y0 y1
    go_wp2
    exact ⟨⟨q + 1,j,by omega,by omega,by omega,by go_num,rfl,HX.out.trans HXW.out⟩,by simp [intOf];omega⟩
   | true=>
    have hc:=of_decide_eq_true hcb
    clear hcb
    go_wp2
    refine wp_region_plan (.read 0 (.read 1 (.read 2 (.read 3 (.read 4 (.read 5 (.read 6 (.read 7 (.read 8 (.main 9 (.read 10 (.read 11 .done)))))))))))) (by kernel_rfl) (by kernel_rfl) ?_
    intro wD hxD
    have XE : Hid (Ext wD wD):=Ext.refl _
    have px0:=cell_later (cell_later x0 _ hxD)
    have px1:=cell_later (cell_later x1 _ hxD)
    have py0:=cell_later (cell_later y0 _ hxD)
    have py1:=cell_later (cell_later y1 _ hxD)
    repeat' (first
     | ((first | refine walks_move rfl rfl ?_ | refine walks_assign rfl rfl ?_ | refine walks_skip rfl rfl ?_);simp only [Act.put,Act.eval,evs])
     | (refine walks_unwanted rfl rfl ?_;simp only [Act.put,evp])
     | (refine walks_read (v:=?_) rfl rfl (fun w' hE=>?_) ?_;rotate_left 1;(· ((try (have hEx:=Ext.trans (Hid.out XE) hE));go_simp;(try go_bits);with_reducible rfl));simp only [Act.put,evp])
     | (refine walks_alt ?_ ?_)
     | (refine walks_main rfl rfl (fun K hK=>?_);go_wp2_with ((go_at_call 132;(with_reducible refine (cmp_any x y _).mono ?_);rintro e w2 ⟨rfl,hx2⟩;have XE':=hid (Ext.trans (Hid.out XE) hx2);clear XE;have XE:=XE';clear XE'));refine hK _ _ (by first | assumption | exact Ext.alloc _ _ | exact Ext.refl _) ?_;clear hK K;try simp only [Act.put,evp]))
    refine walks_done ?_
    have HXW:=hid (hxD.trans XE.out)
    clear px0 px1 py0 py1 x0 x1 y0 y1
    go_wp2
    exact ⟨⟨i,q,by omega,by omega,by omega,rfl,rfl,HX.out.trans HXW.out⟩,by simp [intOf];omega⟩
  ·have hlt' : ¬ (i : Int) < (j : Int):=by omega
   have HBR : Hid (Below w0.heap.size w wr):=Below.mono HX.out (ext_sz HG0.out.ext)
   go_wp2
   go_loopw [17] (fun u wq=>∃ (k : Nat) (m1 : List Ava),i ≤ k ∧ k ≤ m ∧ u = .int .i64 k ∧ Hid (GrowA 143 w0 wq (.slice (some ⟨g,0,none⟩) n cap) m1 ∧ Below w0.heap.size w wq) ∧ Hid (Sub l m1)) (fun u _=>(intOf u).toNat)
   case atStart=>exact ⟨m,l,by omega,by omega,rfl,⟨HGM.out,HBR.out⟩,Sub.refl l⟩
   case round=>
    obtain ⟨k,m1,hk1,hk2,rfl,HGK,HS⟩:=hrel
    by_cases hlt2 : i < k
    ·have hlt2' : (i : Int) < (k : Int):=by omega
     obtain ⟨k1,hk3⟩ : ∃ k1,k1 = k - 1:=⟨_,rfl⟩
     have zk : (k : Int) - 1 = (k1 : Int):=by omega
     have hk4 : k1 < k:=by omega
     have hk5 : i ≤ k1:=by omega
     have HM1 : Hid (m1.length = n):=by show _ = _;rw [HS.out.1];exact HML.out
     clear HML
     have HML:=HM1
     have hml:=HML.out
     obtain ⟨x,hx⟩ : ∃ x,m1[k]? = some x:=⟨_,List.getElem?_eq_getElem (show k < m1.length by omega)⟩
     obtain ⟨y,hy⟩ : ∃ y,m1[k1]? = some y:=⟨_,List.getElem?_eq_getElem (show k1 < m1.length by omega)⟩
     have z2 : (k : Int) < (n : Int):=by omega
     have z3 : (k1 : Int) < (n : Int):=by omega
     have z4 : k < n:=by omega
     have z5 : k1 < n:=by omega
     have HKA : Hid (k < m1.length):=by show _ < _;omega
     have HKB : Hid (k1 < m1.length):=by show _ < _;omega
     have HXA:=hid hx
     have HYB:=hid hy
     have HSW:=hid (swapL_at hx hy)
     have HS2:=hid (HS.out.trans (swapL_sub m1 k k1))
     clear hx hy hml
     clear hk3
     go_wp2
     refine wp_region_planB w0.heap.size (.read 0 (.read 1 (.read 2 (.read 3 (.read 4 (.read 5 (.read 6 (.read 7 (.read 8 (.read 10 (.read 11 (.read 12 (.alt 9 (.main 13 (.read 14 (.main 15 (.read 16 (.main 17 .done))))) (.main 13 (.main 9 (.read 14 (.main 15 (.read 16 (.main 17 .done))))))))))))))))))) (by kernel_rfl) (by kernel_rfl) ?_
     intro wD hxD
     have XB : Hid (Below w0.heap.size wD wD):=Below.refl _ _
     have HGD:=hid (HGK.out.1.later hxD)
     repeat' (first
      | ((first | refine walksB_move rfl rfl ?_ | refine walksB_assign rfl rfl ?_ | refine walksB_skip rfl rfl ?_);simp only [Act.put,Act.eval,evs])
      | (refine walksB_unwanted rfl rfl ?_;simp only [Act.put,evp])
      | (refine walksB_read (v:=?_) rfl rfl (fun w' hE=>?_) ?_;rotate_left 1;(· ((try (have hEx:=Below.trans (Hid.out XB) hE));go_simp;(try go_bits);with_reducible rfl));simp only [Act.put,evp])
      | (refine walksB_main rfl rfl (fun K hK=>?_);(first | (refine load_ava_wp _ rfl (k) rfl HGD.out x HXA.out ?_) | (refine load_ava_wp _ rfl (k1) rfl HGD.out y HYB.out ?_) | (refine store_ava_wp _ _ rfl (k) rfl y rfl HGD.out HKA.out ?_;intro w7 hg7 hb7;have HG7:=hid hg7;clear hg7;have XB':=hid (Below.trans (Hid.out XB) (hb7));clear XB;have XB:=XB';clear XB') | (refine store_ava_wp _ _ rfl (k1) rfl x rfl HG7.out (by rw [List.length_set];exact HKB.out) ?_;intro w8 hg8 hb8;have HG8:=hid hg8;clear hg8;have XB':=hid (Below.trans (Hid.out XB) (hb8));clear XB;have XB:=XB';clear XB'));refine hK _ _ (by first | assumption | exact Below.refl _ _ | exact Below.mono (Ext.alloc _ _) (Hid.out HSW) | exact Below.setCell (p:=⟨_,_,_⟩) (Below.refl _ _) (Nat.le_refl _) _) ?_;clear hK K;try simp only [Act.put,evp])
      | (refine walksB_alt ?_ ?_)
      | (refine walksB_main rfl rfl (fun K hK=>?_);go_wp2_with (fail);refine hK _ _ (by first | assumption | exact Below.refl _ _ | exact Below.mono (Ext.alloc _ _) (Hid.out HSW) | exact Below.setCell (p:=⟨_,_,_⟩) (Below.refl _ _) (Nat.le_refl _) _) ?_;clear hK K;try simp only [Act.put,evp]))
     all_goals
      refine walksB_done ?_
      rw [← HSW.out] at HG8
      have HBX:=hid (Below.trans HGK.out.2 (Below.trans (Below.mono hxD (ext_sz HGK.out.1.ext)) XB.out))
      go_wp2
      exact ⟨⟨k1,_,by omega,by omega,rfl,⟨HG8.out,HBX.out⟩,HS2⟩,by simp [intOf];omega⟩
    ·have hlt2' : ¬ (i : Int) < (k : Int):=by omega
     go_wp2
     (try simp only [Exit.inBlock,Exit.then])
     refine bodyPost_ret (results_none rfl _ _ _) rfl ?_
     exact ⟨rfl,⟨m1,HGK.out.1,HS.out⟩,HGK.out.2⟩
end Go.Proofs.YtejdpadhemeldaaGreatDoor
namespace Go.Proofs.YtejdpadhemeldaaGreatDoor
open Go.RowKit
set_option maxRecDepth 100000
theorem own_cells_one {w : World} {base : Nat} {e : TypeId} {size n : Nat} {v : Value} {xs ys : List Value} (h : w.ownsRow base e size v n xs) (k : w.ownsRow base e size v n ys) : ys = xs:=by
 rcases k.2 with ⟨_,z1⟩ | ⟨g,cap,cur,e3,e4,e5,e6,e7,e8,e9⟩
 ·have z2:=k.1
  have z3:=h.1
  rw [z1,Nat.zero_mul] at z2 z3
  rw [List.eq_nil_of_length_eq_zero z2,List.eq_nil_of_length_eq_zero z3]
 ·rcases h.2 with ⟨z0,z1⟩ | ⟨g',cap',cur',f3,f4,f5,f6,f7,f8,f9⟩
  ·rw [e3] at z0;cases z0
  ·rw [e3] at f3
   injection f3 with f3 _ f3'
   injection f3 with f3
   injection f3 with f3
   subst f3
   rw [e5] at f5
   injection f5 with f5
   injection f5 with f5
   subst f5
   rw [← e9,← f9]
section
variable {α : Type} {E : Elem α} {w w0 : World} {o : Oper} {a : Act} {K : Act → World → Prop} {Q : Exit → Act → World → Prop} {ops : Array Oper} {rest : List Oper}
theorem append_el_wp {T ST : TypeId} {z : Value} {bytes : Nat} (hu : Tryz.prog.underlying ST = some (.slice T)) (hinf : (Tryz.prog.info? T).map (fun i=>(i.zero,i.size,i.bytes)) = some (some z,E.k,bytes)) (hzs : z.cells.size = E.k) (hby : bytes ≤ 1000)
 (s x : Operand) (ho : o.op = .call { callee:=.builtin .append,args:=#[s,x],argTypes:=#[ST,ST] }) {L : Option Nat} (v : Value) (l : List α) (hs : a.eval s = v) (hg : GrowR E T L w0 w v l)
 {t : TypeId} {u : List Value} (y : α) (hE : E.R (inner w0 v L) w u y) (h1 : ∀ c ∈ u,c.oneCell' = true) {g : Nat} (hx : a.eval x = .slice (some ⟨g,0,none⟩) 1 1) (hgs : g = w.heap.size) (hb : l.length ≤ 4000000)
 (h : ∀ v' w',GrowR E T L w0 w' v' (l ++ [y]) → (w.alloc (.cells u.toArray t)).grownBy w' v.ownBlock → Below w0.heap.size (w.alloc (.cells u.toArray t)) w' → K (a.put o.dst v') w') :
 o.wp Tryz.prog a (w.alloc (.cells u.toArray t)) K Q:=by
 subst hgs
 have hg2:=hg.later (Ext.alloc w (.cells u.toArray t))
 have hk : u.length = E.k:=E.len hE
 obtain ⟨⟨vss,q1,q2,q3⟩,q4,q5⟩:=hg2
 refine wp_append_sz s x ST ho w0.heap.size T z E.k bytes hu hinf hzs E.pos v l.length vss.flatten hs q2 _ 1 1 u hx (by rw [hk,Nat.one_mul]) (.inr ⟨_,0,rfl,fun j c hj=>by rw [Nat.zero_add,box_a];simpa using hj⟩)
  h1 (by simp [maxLen];omega) (Nat.le_trans (Nat.mul_le_mul (Nat.add_le_add_right hb 1) hby) (by decide)) (ext_sz q4) ?_
 intro v' w' p1 p2 p3
 have hE' : E.R (inner w0 v L) (w.alloc (.cells u.toArray t)) u y:=elem_keep hE (fun b _ hlt=>(Ext.alloc w (.cells u.toArray t)).block b hlt) (fun b hS _=>hS)
 obtain ⟨k1,k2⟩:=(hg.later (Ext.alloc w (.cells u.toArray t))).snoc (v':=v') (w':=w') hE' (fun vs' hvs'=>by rw [own_cells_one q2 hvs'];exact p1) p2 p3
 exact h v' w' k1 p2 k2
theorem append_el {T ST : TypeId} {z : Value} {bytes : Nat} (hu : Tryz.prog.underlying ST = some (.slice T)) (hinf : (Tryz.prog.info? T).map (fun i=>(i.zero,i.size,i.bytes)) = some (some z,E.k,bytes)) (hzs : z.cells.size = E.k) (hby : bytes ≤ 1000)
 (hgd : o.guard = none) (s x : Operand) (ho : o.op = .call { callee:=.builtin .append,args:=#[s,x],argTypes:=#[ST,ST] }) {L : Option Nat} (v : Value) (l : List α) (hs : a.eval s = v) (hg : GrowR E T L w0 w v l)
 {t : TypeId} {u : List Value} (y : α) (hE : E.R (inner w0 v L) w u y) (h1 : ∀ c ∈ u,c.oneCell' = true) {g : Nat} (hx : a.eval x = .slice (some ⟨g,0,none⟩) 1 1) (hgs : g = w.heap.size) (hb : l.length ≤ 4000000)
 (h : ∀ v' w',GrowR E T L w0 w' v' (l ++ [y]) → (w.alloc (.cells u.toArray t)).grownBy w' v.ownBlock → Below w0.heap.size (w.alloc (.cells u.toArray t)) w' → wpList Tryz.prog ops Q rest (a.put o.dst v') w') :
 wpList Tryz.prog ops Q (o :: rest) a (w.alloc (.cells u.toArray t)):=
 wpList_plain hgd fun _ hK=>append_el_wp hu hinf hzs hby s x ho v l hs hg y hE h1 hx hgs hb fun v' w' k1 k2 k3=>hK _ _ (h v' w' k1 k2 k3)
end
end Go.Proofs.YtejdpadhemeldaaGreatDoor
namespace Go.Proofs.YtejdpadhemeldaaGreatDoor
open Go.RowKit
set_option maxRecDepth 100000
theorem ret_cell1 {P : Program} {fn : Func} {R : Ending → World → Prop} {a : Act} {w0 w : World} {p : Tmp} {ty : TypeId} {g : Nat} {T : TypeId} {cs : Array Value} (d : TypeDesc) (h : fn.results = #[.cell p ty])
 (hp : a.tmps.getD p undef = .pointer (some ⟨g,0,none⟩)) (hb : Bx w0 w g T cs) (hu : P.underlying ty = some d) (hd : (match d with | .struct _ | .array _ _=>true | _=>false) = true) (hi : (P.info? ty).map (·.size) = some cs.size)
 (hdf : a.defers = []) (hR : R (.returned (.agg cs)) w) : bodyPost P fn R .ret a w:=by
 refine bodyPost_ret (v:=.agg cs) ?_ hdf hR
 exact results_cell_row h a.tmps w g T cs (0,0) d hp hb.blk hu hd hi
section
variable {w w0 : World} {o : Oper} {a : Act} {K : Act → World → Prop} {Q : Exit → Act → World → Prop}
theorem append_strs_wp2 (s x : Operand) (ho : o.op = .call { callee:=.builtin .append,args:=#[s,x],argTypes:=#[36,36] })
 (v : Value) (l : List ByteArray) (hs : a.eval s = v) (hg : GrowS w0 w v l) (A : Option Addr) (m c : Nat) (ys : List ByteArray) (hx : a.eval x = .slice A m c) (hm : m = ys.length) (hy : Cells w A (ys.map .string))
 (hb : l.length + m ≤ 8796093022208) (h : ∀ v' w',GrowS w0 w' v' (l ++ ys) → Below w0.heap.size w w' → K (a.put o.dst v') w') : o.wp Tryz.prog a w K Q:=by
 obtain ⟨i0,hi,hz0,hz1,hz2⟩:=info_parts infoStr
 refine wp_append_cells s x 36 ho w0.heap.size 9 i0 (.string ByteArray.empty) 16 Tryz.underlying36 hi hz0 hz1 hz2 rfl v l.length (l.map .string) hs hg.own A m c (ys.map .string) hx (by simpa using hm) hy ?_ (by simp [maxLen];omega) (by omega) (ext_sz hg.ext) ?_
 ·intro u hu
  obtain ⟨b,_,rfl⟩:=List.mem_map.1 hu
  rfl
 ·intro v' w' h1 h2 _
  have hb:=below_grown hg.own h2 (ext_sz hg.ext) (Nat.le_refl _)
  refine h v' w' ⟨?_,Below.trans hg.ext hb⟩ hb
  rw [List.length_append,← hm,List.map_append]
  exact h1
theorem lits0_wp (ho : o.op = .buildSlice 36 0 #[]) (h : ∀ v w',GrowS w w' v [] → Below w.heap.size w w' → K (a.put o.dst v) w') : o.wp Tryz.prog a w K Q:=by
 have hr : (execOp a.eval o).run Tryz.prog w = .ok (.value (.slice (some ⟨w.heap.size,0,none⟩) 0 0)) (w.alloc (.cells #[] 9)):=by
  unfold execOp
  simp only [ho]
  kernel_rfl
 unfold Oper.wp
 rw [hr]
 exact h _ _ ⟨own_empty w _ (Nat.le_refl _) _ _,Ext.alloc _ _⟩ (Ext.alloc _ _)
end
theorem infoAtt : (Tryz.prog.info? 42).map (fun i=>(i.zero,i.size,i.bytes)) = some (some (.agg #[.string ByteArray.empty,.slice none 0 0]),Elem.att.k,40):=by kernel_rfl
theorem infoEnt : (Tryz.prog.info? 31).map (fun i=>(i.zero,i.size,i.bytes)) = some (some (.agg #[.string ByteArray.empty,.slice none 0 0]),Elem.ent.k,40):=by kernel_rfl
theorem cell_lb {w wr : World} {B : Nat} {p : Addr} {v : Value} (h : w.cell? p = some v) (hp : p.block < B) (hx : Below B w wr) : ∀ w',Below B wr w' → w'.cell? p = some v:=fun w' h'=>by
 rw [Below.cell (Below.trans hx h') hp]
 exact h
def CopySays (w : World) (e0 : Ent) (e : Ending) (w' : World) : Prop:=∃ A n c,e = .returned (.agg #[.string e0.name,.slice A n c]) ∧ Row Elem.att (fun b=>w.heap.size ≤ b) w' A n c e0.atts ∧ Ext w w'
theorem rcopy_any {S : Nat → Prop} {A : Option Addr} {n c : Nat} {w : World} {nm : ByteArray} {l : List Att} (h : Row Elem.att S w A n c l) (hm : l.length ≤ 2000000) (hv : ∀ a ∈ l,a.vals.length ≤ 8796093022208) :
 Calls Tryz.prog 21 #[.agg #[.string nm,.slice A n c]] w (CopySays w ⟨nm,l⟩):=by
 have HR:=hid h
 have HLN:=hid h.len
 have HM:=hid hm
 have HV:=hid hv
 have hn : n ≤ 9223372036854775807:=by have:=h.cap;have:=h.most;simp only [maxLen] at this;omega
 unfold CopySays
 clear h hm hv
 have HB0:=hid (((Bx.make (Ext.refl w) #[.string nm,.slice A n c] 31).later (Ext.alloc _ (.cells #[.string ⟨#[]⟩,.slice none 0 0] 31))))
 have HB1:=hid (Bx.make (Ext.alloc w (.cells #[.string nm,.slice A n c] 31)) #[.string ⟨#[]⟩,.slice none 0 0] 31)
 go_enter Tryz.func21,Tryz.ntmps21
 go_wp2
 generalize hw1 : (w.alloc (.cells #[.string nm,.slice A n c] 31)).alloc (.cells #[.string ⟨#[]⟩,.slice none 0 0] 31) = w1 at *
 have hs1 : w1.heap.size = w.heap.size + 1 + 1:=by rw [← hw1];simp
 have HS1:=hid hs1
 rw [show (w.alloc (.cells #[.string nm,.slice A n c] 31)).heap.size = w.heap.size + 1 by simp] at HB1
 clear hw1
 have HX1 : Hid (Ext w w1):=HB0.out.ext
 have hvt : ∀ (i : Nat) x,l[i]? = some x → l.take (i + 1) = l.take i ++ [x]:=fun i x hx=>by rw [List.take_add_one,hx];rfl
 have HVT:=hid hvt
 clear hvt
 go_loopw [11] (fun i wr=>∃ (j : Nat) (v : Value),j ≤ n ∧ i = .int .i64 j ∧ Hid (GrowR Elem.att 42 (some (w.heap.size + 1 + 1)) w1 wr v (l.take j)) ∧ Hid (Bx w1 wr (w.heap.size + 1 + 1) 31 #[.string nm,v])) (fun i _=>n - (intOf i).toNat)
 case atStart=>
  refine ⟨0,_,by omega,rfl,GrowR.nil (Ext.alloc _ _) (fun g hg=>by injection hg with hg;subst hg;rw [HS1.out];simp [HS1.out]),?_⟩
  have:=Bx.make (Ext.refl w1) #[.string nm,.slice none 0 0] 31
  rw [HS1.out] at this
  exact this
 case round=>
  obtain ⟨j,v,hj,rfl,HGR,HBN⟩:=hrel
  have HBR:=hid (HB0.out.later HGR.out.ext)
  by_cases hlt : j < n
  ·obtain ⟨b1,o1,v1,x1,rfl,g1,-,⟨A1,n1,c1,rfl,r1⟩,q1⟩:=HR.out.at_ hlt
   have e10:=q1 0 _ rfl
   have e11:=q1 1 _ rfl
   simp only [Elem.att,Nat.add_zero] at e10 e11
   have R1:=hid r1
   have hbl:=World.block_lt_of_cell? w _ e10
   have E10:=hid (cell_later e10 _ HX1.out)
   have E11:=hid (cell_later e11 _ HX1.out)
   have HBL : Hid (b1 < w.heap.size + 1 + 1):=by show _ < _;simp only at hbl;omega
   have HNB:=hid (HGR.out.apart _ rfl).1
   clear e10 e11 hbl
   have HTK:=hid (HVT.out _ _ g1)
   have HVX:=hid (HV.out x1 (List.mem_of_getElem? g1))
   have HLT : Hid ((l.take j).length ≤ 4000000):=by show _ ≤ _;rw [List.length_take];have:=HLN.out;have:=HM.out;omega
   have p1:=HBR.out.cell (i:=1) rfl
   have hz1:=HS1.out
   have hzr:=ext_sz HGR.out.ext
   clear q1 r1 g1
   go_wp2
   refine wp_region_planB (w.heap.size+1+1) (.read 0 (.read 2 (.read 3 (.read 4 (.read 5 (.read 6 (.read 7 (.read 9 (.read 10 (.read 11 (.read 12 (.read 13 (.read 14 (.alt 1 (.main 8 (.main 15 (.read 16 (.main 17 (.main 18 (.read 19 (.main 20 .done))))))) (.main 8 (.alt 1 (.main 15 (.read 16 (.main 17 (.main 18 (.read 19 (.main 20 .done)))))) (.main 15 (.read 16 (.alt 1 (.main 17 (.main 18 (.read 19 (.main 20 .done)))) (.main 17 (.main 1 (.main 18 (.read 19 (.main 20 .done)))))))))))))))))))))))) (by kernel_rfl) (by kernel_rfl) ?_
   intro wD hxD
   have XB : Hid (Below (w.heap.size + 1 + 1) wD wD):=Below.refl _ _
   have HGR':=hid (HGR.out.later hxD)
   have HBN':=hid (HBN.out.later hxD)
   have HGX:=hid (HGR'.out.ext)
   have hxf:=HGR.out.ext.trans hxD
   unfold Ext at hxf
   rw [HS1.out] at hxf
   have c0:=cell_lb E10.out HBL.out hxf
   have c1':=cell_lb E11.out HBL.out hxf
   have p1':=cell_lb (HB0.out.cell (i:=1) rfl) (show w.heap.size < w.heap.size + 1 + 1 by omega) hxf
   have HSZ : Hid (w.heap.size + 1 + 1 ≤ wD.heap.size):=by show _ ≤ _;rw [← HS1.out];exact ext_sz HGX.out
   clear hxf p1
   repeat' (first
    | ((first | refine walksB_move rfl rfl ?_ | refine walksB_assign rfl rfl ?_ | refine walksB_skip rfl rfl ?_);simp only [Act.put,Act.eval,evs])
    | (refine walksB_unwanted rfl rfl ?_;simp only [Act.put,evp])
    | (refine walksB_read (v:=?_) rfl rfl (fun w' hE=>?_) ?_;rotate_left 1;(· ((try (have hEx:=Below.trans (Hid.out XB) hE));go_simp;(try go_bits);with_reducible rfl));simp only [Act.put,evp])
    | (refine walksB_main rfl rfl (fun K hK=>?_);(first | (refine wp_load_cell 29 (.tmp 14) rfl ⟨w.heap.size + 1 + 1,1,none⟩ rfl v (by first | exact HBN'.out.cell (i:=1) rfl | exact cell_later (HBN'.out.cell (i:=1) rfl) _ (Ext.alloc _ _)) (fun _=>by kernel_rfl) ?_) | (refine lits0_wp rfl ?_;intro v7 w7 hg7 hb7;have HG7:=hid hg7;have HGR0:=HGR';have HBN0:=HBN';have HGR'':=hid (HGR'.out.later hg7.ext);have HBN'':=hid (HBN'.out.later hg7.ext);clear HGR' HBN' HGX;have HGR':=HGR'';have HBN':=HBN'';have HGX:=hid HGR'.out.ext;clear HGR'' HBN'';have hb7':=Below.mono hb7 HSZ.out;clear hb7 hg7;have XB':=hid (Below.trans (Hid.out XB) (hb7'));clear XB;have XB:=XB';clear XB') | (refine append_strs_wp2 (.tmp 22) (.tmp 28) rfl v7 [] rfl HG7.out A1 n1 c1 x1.vals rfl R1.out.len ((R1.out.ext (HX1.out.trans HGX.out)).str_cells) (by have h1:=R1.out.len;have h2:=HVX.out;simp only [List.length_nil];omega) ?_;intro v8 w8 hg8 hb8;clear HGR' HBN' HGX;have HGR':=hid (HGR0.out.later hg8.ext);have HBN':=hid (HBN0.out.later hg8.ext);have HGX:=hid HGR'.out.ext;have HSW : Hid (w.heap.size + 1 + 1 ≤ w8.heap.size):=(by (show _ ≤ _);rw [← HS1.out];exact ext_sz HGX.out);obtain ⟨A9,c9,rfl,hr9⟩:=hg8.row;simp only [List.length_map,List.nil_append] at hr9;have HE9:=hid (HGR0.out.fresh (Ext.refl _) (Nat.le_refl _) (u:=[.string x1.type,.slice A9 x1.vals.length c9]) (x:=x1) ⟨A9,_,c9,rfl,hr9⟩);have hb8':=Below.mono hb8 HSZ.out;clear hb8 hg8 hr9;have XB':=hid (Below.trans (Hid.out XB) (hb8'));clear XB;have XB:=XB';clear XB') | (refine append_el_wp Tryz.underlying29 infoAtt rfl (by decide) (.tmp 15) (.tmp 31) rfl v (l.take j) rfl HGR'.out (u:=[.string x1.type,.slice A9 x1.vals.length c9]) x1 HE9.out (by intro c hc;simp at hc;rcases hc with rfl | rfl <;> rfl) rfl rfl HLT.out ?_;intro v' w9 k1 k2 k3;obtain ⟨A6,c6,rfl,-⟩:=k1.row;simp only [List.length_append,List.length_cons,List.length_nil,Nat.zero_add] at k1;have HG9:=hid k1;have HB9:=hid ((HBN'.out.later (Ext.alloc _ _)).grown k2 HNB.out k3);have n1:=HB9.out.cell (i:=1) rfl;have f1:=HB9.out.frozen 1;rw [HS1.out] at k3;clear k1 k2));refine hK _ _ (by first | assumption | exact Below.refl _ _ | exact Below.mono (Ext.alloc _ _) (Hid.out HSW) | exact Below.setCell (p:=⟨_,_,_⟩) (Below.refl _ _) (Nat.le_refl _) _) ?_;clear hK K;try simp only [Act.put,evp])
    | (refine walksB_alt ?_ ?_)
    | (refine walksB_main rfl rfl (fun K hK=>?_);go_wp2_with (fail);refine hK _ _ (by first | assumption | exact Below.refl _ _ | exact Below.mono (Ext.alloc _ _) (Hid.out HSW) | exact Below.setCell (p:=⟨_,_,_⟩) (Below.refl _ _) (Nat.le_refl _) _) ?_;clear hK K;try simp only [Act.put,evp]))
   all_goals
    refine walksB_done ?_
    go_wp2
    refine ⟨⟨j + 1,_,by omega,by go_num,?_,HB9.out.set1 _⟩,by simp [intOf];omega⟩
    rw [HTK.out]
    have h9:=HG9.out.setL 1 (.slice A6 ((l.take j).length + 1) c6)
    simp only [List.length_take] at h9
    exact h9
  ·obtain rfl : j = n:=by omega
   have hgr:=HGR.out
   rw [List.take_of_length_le (Nat.le_of_eq HLN.out.symm)] at hgr
   obtain ⟨A2,c2,rfl,hr2⟩:=hgr.row
   have HR2:=hid hr2
   have n0:=HBN.out.cell (i:=0) rfl
   have n1:=HBN.out.cell (i:=1) rfl
   have HB:=HB1.out.later HGR.out.ext
   have r0:=HB.cell (i:=0) rfl
   have r1:=HB.cell (i:=1) rfl
   have f0:=HB.frozen 0
   have f1:=HB.frozen 1
   have HBY:=hid HB
   clear HB hr2 hgr
   go_wp2
   (try simp only [Exit.inBlock,Exit.then])
   refine ret_cell1 _ rfl rfl ((HBY.out.set0 (.string nm)).set1 (.slice A2 l.length c2)) Tryz.underlying31 rfl (by kernel_rfl) rfl ?_
   refine ⟨A2,l.length,c2,rfl,?_,((HBY.out.set0 (.string nm)).set1 (.slice A2 l.length c2)).ext⟩
   have hz1:=HS1.out
   refine (HR2.out.same (w':=_) fun b hb=>?_).mono fun b _ hb=>?_
   ·have hne : b ≠ w.heap.size + 1:=by have hb' : w1.heap.size ≤ b:=hb;omega
    rw [heap_setCell_other _ _ _ _ hne,heap_setCell_other _ _ _ _ hne]
   ·have hb' : w1.heap.size ≤ b:=hb
    show w.heap.size ≤ b
    omega
theorem rcopyall_any {S : Nat → Prop} {A : Option Addr} {n c : Nat} {w : World} {l : List Ent} (h : Row Elem.ent S w A n c l) (hm : l.length ≤ 2000000) (hv : ∀ e ∈ l,e.atts.length ≤ 2000000 ∧ ∀ a ∈ e.atts,a.vals.length ≤ 8796093022208) :
 Calls Tryz.prog 34 #[.slice A n c] w fun e w'=>∃ A' n' c',e = .returned (.slice A' n' c') ∧ Row Elem.ent (fun b=>w.heap.size ≤ b) w' A' n' c' l ∧ Ext w w':=by
 have HR:=hid h
 have HLN:=hid h.len
 have HM:=hid hm
 have HV:=hid hv
 have hn : n ≤ 9223372036854775807:=by have:=h.cap;have:=h.most;simp only [maxLen] at this;omega
 clear h hm hv
 go_enter Tryz.func34,Tryz.ntmps34
 go_wp2
 go_loopw [3,7] (fun v i wr=>∃ j : Nat,j ≤ n ∧ i = .int .i64 j ∧ Hid (GrowR Elem.ent 31 none w wr v (l.take j))) (fun _ i _=>n - (intOf i).toNat)
 case atStart=>exact ⟨0,by omega,rfl,GrowR.nil (Ext.refl _) (fun g hg=>by cases hg)⟩
 case round=>
  obtain ⟨j,hj,rfl,HGR⟩:=hrel
  by_cases hlt : j < n
  ·obtain ⟨b1,o1,v1,x1,rfl,g1,-,⟨A1,n1,c1,rfl,r1⟩,q1⟩:=(HR.out.ext HGR.out.ext).at_ hlt
   have e10:=q1 0 _ rfl
   have e11:=q1 1 _ rfl
   simp only [Elem.ent,Nat.add_zero] at e10 e11
   have hvx:=HV.out x1 (List.mem_of_getElem? g1)
   have HCP : Calls Tryz.prog 21 #[.agg #[.string x1.name,.slice A1 n1 c1]] wr (CopySays wr ⟨x1.name,x1.atts⟩):=rcopy_any r1 hvx.1 hvx.2
   unfold CopySays at HCP
   have HTK : Hid (l.take (j + 1) = l.take j ++ [x1]):=by show _ = _;rw [List.take_add_one,g1];rfl
   have HLT : Hid ((l.take j).length ≤ 4000000):=by show _ ≤ _;rw [List.length_take];have:=HLN.out;have:=HM.out;omega
   clear q1 r1 g1 hvx
   go_wp2_with (first
    | (go_at_call 21;(with_reducible refine HCP.mono ?_);rintro e w2 ⟨A2,n2,c2,rfl,hr2,hx2⟩;have HE2:=hid (HGR.out.fresh (Ext.refl _) (Nat.le_refl _) (u:=[.string x1.name,.slice A2 n2 c2]) (x:=x1) ⟨A2,n2,c2,rfl,hr2⟩);have HG2:=hid (HGR.out.later hx2);clear hr2 hx2)
    | (at_builtin;refine append_el Tryz.underlying22 infoEnt rfl (by decide) rfl _ _ rfl _ _ rfl HG2.out (u:=[.string x1.name,.slice A2 n2 c2]) x1 HE2.out (by intro c hc;simp at hc;rcases hc with rfl | rfl <;> rfl) rfl rfl HLT.out ?_;intro v' w3 hg3 _ _;have HG3:=hid hg3;clear hg3))
   exact ⟨⟨j + 1,by omega,by go_num,by rw [HTK.out];exact HG3⟩,by simp [intOf];omega⟩
  ·obtain rfl : j = n:=by omega
   have hgr:=HGR.out
   rw [List.take_of_length_le (Nat.le_of_eq HLN.out.symm)] at hgr
   obtain ⟨A2,c2,rfl,hr2⟩:=hgr.row
   have HR2:=hid hr2
   have HX:=hid hgr.ext
   clear hgr hr2 HGR
   go_wp2
   go_ret
   exact ⟨A2,_,c2,rfl,HR2.out,HX.out⟩
end Go.Proofs.YtejdpadhemeldaaGreatDoor
namespace Go.Proofs.YtejdpadhemeldaaGreatDoor
open Go.RowKit
set_option maxRecDepth 100000
def outer (S : Nat → Prop) (v : Value) (L : Option Nat) : Nat → Prop:=fun b=>S b ∧ some b ≠ v.ownBlock ∧ some b ≠ L
structure GrowM {α : Type} (E : Elem α) (S : Nat → Prop) (T : TypeId) (L : Option Nat) (w wr : World) (v : Value) (l : List α) : Prop where
 rows : ∃ vss : List (List Value),vss.length = l.length ∧ wr.ownsRow w.heap.size T E.k v l.length vss.flatten ∧ (∀ (i : Nat) u x,vss[i]? = some u → l[i]? = some x → E.R (outer S v L) wr u x)
 ext : Ext w wr
 apart : ∀ g,L = some g → v.ownBlock ≠ some g ∧ w.heap.size ≤ g ∧ g < wr.heap.size
section
variable {α : Type} {E : Elem α} {S : Nat → Prop} {T : TypeId} {L : Option Nat} {w wr w' : World} {v : Value} {l : List α}
theorem GrowM.nil (hx : Ext w wr) (hL : ∀ g,L = some g → w.heap.size ≤ g ∧ g < wr.heap.size) : GrowM E S T L w wr (.slice none 0 0) []:=
 ⟨⟨[],rfl,World.ownsRow_nil _ _ _ _,fun i u x h=>by simp at h⟩,hx,fun g hg=>⟨by simp [Value.ownBlock],hL g hg⟩⟩
theorem GrowM.later (h : GrowM E S T L w wr v l) (hx : Ext wr w') : GrowM E S T L w w' v l:=by
 obtain ⟨⟨vss,h1,h2,h3⟩,h4,h5⟩:=h
 exact ⟨⟨vss,h1,own_ext h2 hx,fun i u x hi hl=>elem_keep (h3 i u x hi hl) (fun b _ hb=>hx.block b hb) (fun b hS _=>hS)⟩,h4.trans hx,fun g hg=>⟨(h5 g hg).1,(h5 g hg).2.1,Nat.lt_of_lt_of_le (h5 g hg).2.2 hx.size⟩⟩
theorem GrowM.row (h : GrowM E S T L w wr v l) : ∃ A c,v = .slice A l.length c ∧ Row E (fun b=>S b ∨ w.heap.size ≤ b) wr A l.length c l:=by
 obtain ⟨⟨vss,h1,h2,h3⟩,h4,h5⟩:=h
 obtain ⟨A,c,rfl⟩ : ∃ A c,v = .slice A l.length c:=by
  rcases h2.2 with ⟨rfl,h0⟩ | ⟨g,cap,cur,rfl,_⟩
  ·exact ⟨none,0,by rw [h0]⟩
  ·exact ⟨_,_,rfl⟩
 exact ⟨A,c,rfl,own_rows h2 rfl h1 (fun g hg=>.inr (h2.lt g hg).1) fun i u x hi hl=>E.mono (h3 i u x hi hl) fun b _ hS=>.inl hS.1⟩
theorem GrowM.lt (h : GrowM E S T L w wr v l) {b : Nat} (hb : v.ownBlock = some b) : w.heap.size ≤ b ∧ b < wr.heap.size:=by
 obtain ⟨⟨vss,h1,h2,h3⟩,h4,h5⟩:=h
 exact h2.lt b hb
theorem GrowM.old {S' : Nat → Prop} {u : List Value} {x : α} (h : GrowM E S T L w wr v l) (hs : ∀ b,b < w.heap.size → S' b → S b) (hE : E.R S' w u x) : E.R (outer S v L) wr u x:=by
 obtain ⟨⟨vss,h1,h2,h3⟩,h4,h5⟩:=h
 have e1 : E.R (fun b=>S' b ∧ b < w.heap.size) w u x:=E.mono hE fun b hb hS=>⟨hS,hb⟩
 have e2 : E.R (fun b=>S' b ∧ b < w.heap.size) wr u x:=E.same e1 fun b hb=>h4.block b hb.2
 refine E.mono e2 fun b _ hb=>⟨hs b hb.2 hb.1,fun e=>?_,fun e=>?_⟩
 ·have:=(h2.lt b e.symm).1;omega
 ·have:=(h5 b e.symm).2.1;omega
theorem GrowM.new {S' : Nat → Prop} {u : List Value} {x : α} {w1 : World} (h : GrowM E S T L w wr v l) (hs : ∀ b,b < w1.heap.size → S' b → S b) (hS : ∀ b,S' b → b < w.heap.size ∨ wr.heap.size ≤ b) (hE : E.R S' w1 u x) : E.R (outer S v L) w1 u x:=by
 obtain ⟨⟨vss,h1,h2,h3⟩,h4,h5⟩:=h
 refine E.mono hE fun b hlt hb=>⟨hs b hlt hb,fun e=>?_,fun e=>?_⟩
 ·have h6:=h2.lt b e.symm
  have h7:=hS b hb
  omega
 ·have h6:=h5 b e.symm
  have h7:=hS b hb
  omega
theorem GrowM.snoc {v' : Value} {xs : List α} {us : List (List Value)} (h : GrowM E S T L w wr v l) (hlen : us.length = xs.length) (hx : ∀ (i : Nat) u x,us[i]? = some u → xs[i]? = some x → E.R (outer S v L) wr u x) (ho : ∀ vss,wr.ownsRow w.heap.size T E.k v l.length vss → w'.ownsRow w.heap.size T E.k v' (l.length + xs.length) (vss ++ us.flatten)) (hg : wr.grownBy w' v.ownBlock)
 (hb : v'.ownBlock = v.ownBlock ∨ v'.ownBlock = some wr.heap.size) : GrowM E S T L w w' v' (l ++ xs) ∧ Below w.heap.size wr w':=by
 obtain ⟨⟨vss,h1,h2,h3⟩,h4,h5⟩:=h
 have hbw : Below w.heap.size wr w':=below_grown h2 hg (ext_sz h4) (Nat.le_refl _)
 have hkeep : ∀ b,outer S v L b → b < wr.heap.size → w'.heap[b]? = wr.heap[b]?:=fun b hS hlt=>hg.block b hlt hS.2.1
 have hin : ∀ b,outer S v L b → b < wr.heap.size → outer S v' L b:=fun b hS hlt=>⟨hS.1,fun e=>by
  rcases hb with hb | hb
  ·exact hS.2.1 (by rw [e,hb])
  ·rw [hb] at e;injection e with e;omega,hS.2.2⟩
 refine ⟨⟨⟨vss ++ us,by simp [h1,hlen],?_,fun i u' x' hi hl=>?_⟩,Below.trans h4 hbw,fun g hgL=>?_⟩,hbw⟩
 ·rw [List.length_append,List.flatten_append]
  exact ho _ h2
 ·rcases Nat.lt_or_ge i vss.length with hlt | hge
  ·rw [List.getElem?_append_left hlt] at hi
   rw [List.getElem?_append_left (by omega)] at hl
   exact elem_keep (h3 i u' x' hi hl) hkeep hin
  ·rw [List.getElem?_append_right hge] at hi
   rw [List.getElem?_append_right (by omega),← h1] at hl
   exact elem_keep (hx _ u' x' hi hl) hkeep hin
 ·obtain ⟨ha,hb',hc⟩:=h5 g hgL
  refine ⟨?_,hb',Nat.lt_of_lt_of_le hc hg.size⟩
  rcases hb with hb | hb
  ·rw [hb];exact ha
  ·rw [hb];intro e;injection e with e;omega
end
section
variable {α : Type} {E : Elem α} {S : Nat → Prop} {w w0 : World} {o : Oper} {a : Act} {K : Act → World → Prop} {Q : Exit → Act → World → Prop} {ops : Array Oper} {rest : List Oper}
theorem append_m_wp {T ST : TypeId} {z : Value} {bytes : Nat} (hu : Tryz.prog.underlying ST = some (.slice T)) (hinf : (Tryz.prog.info? T).map (fun i=>(i.zero,i.size,i.bytes)) = some (some z,E.k,bytes)) (hzs : z.cells.size = E.k) (hby : bytes ≤ 1000)
 (s x : Operand) (ho : o.op = .call { callee:=.builtin .append,args:=#[s,x],argTypes:=#[ST,ST] }) {L : Option Nat} (v : Value) (l : List α) (hs : a.eval s = v) (hg : GrowM E S T L w0 w v l)
 {A : Option Addr} {m c : Nat} (us : List (List Value)) (ys : List α) (hlen : us.length = ys.length) (hE : ∀ (i : Nat) u y,us[i]? = some u → ys[i]? = some y → E.R (outer S v L) w u y) (h1 : ∀ c ∈ us.flatten,c.oneCell' = true) (hx : a.eval x = .slice A m c) (hm : m = ys.length) (hcs : Cells w A us.flatten) (hb : l.length + m ≤ 8000000)
 (h : ∀ v' w',GrowM E S T L w0 w' v' (l ++ ys) → w.grownBy w' v.ownBlock → Below w0.heap.size w w' → K (a.put o.dst v') w') :
 o.wp Tryz.prog a w K Q:=by
 have hg2:=hg
 obtain ⟨⟨vss,q1,q2,q3⟩,q4,q5⟩:=hg2
 have hlk : ∀ v ∈ us,v.length = E.k:=fun v hv=>by
  obtain ⟨j,hj,rfl⟩:=List.mem_iff_getElem.1 hv
  exact E.len (hE j us[j] (ys[j]'(by omega)) (List.getElem?_eq_getElem hj) (List.getElem?_eq_getElem (by omega)))
 have hfl : us.flatten.length = m * E.k:=by
  have e : ∀ (u : List (List Value)),(∀ v ∈ u,v.length = E.k) → u.flatten.length = u.length * E.k:=by
   intro u
   induction u with
   | nil=>intro _;simp
   | cons v t ih=>intro hh;rw [List.flatten_cons,List.length_append,ih (fun x hx=>hh x (by simp [hx])),hh v (by simp),List.length_cons,Nat.succ_mul];omega
  rw [e us hlk,hlen,hm]
 refine wp_append_sz s x ST ho w0.heap.size T z E.k bytes hu hinf hzs E.pos v l.length vss.flatten hs q2 A m c us.flatten hx hfl hcs h1 (by simp [maxLen];omega) (Nat.le_trans (Nat.mul_le_mul hb hby) (by decide)) (ext_sz q4) ?_
 intro v' w' p1 p2 p3
 obtain ⟨k1,k2⟩:=hg.snoc (v':=v') (w':=w') hlen hE (fun vs' hvs'=>by rw [own_cells_one q2 hvs',← hm];exact p1) p2 p3
 exact h v' w' k1 p2 k2
theorem append_m1_wp {T ST : TypeId} {z : Value} {bytes : Nat} (hu : Tryz.prog.underlying ST = some (.slice T)) (hinf : (Tryz.prog.info? T).map (fun i=>(i.zero,i.size,i.bytes)) = some (some z,E.k,bytes)) (hzs : z.cells.size = E.k) (hby : bytes ≤ 1000)
 (s x : Operand) (ho : o.op = .call { callee:=.builtin .append,args:=#[s,x],argTypes:=#[ST,ST] }) {L : Option Nat} (v : Value) (l : List α) (hs : a.eval s = v) (hg : GrowM E S T L w0 w v l)
 {t : TypeId} {u : List Value} (y : α) (hE : E.R (outer S v L) w u y) (h1 : ∀ c ∈ u,c.oneCell' = true) {g : Nat} (hx : a.eval x = .slice (some ⟨g,0,none⟩) 1 1) (hgs : g = w.heap.size) (hb : l.length ≤ 4000000)
 (h : ∀ v' w',GrowM E S T L w0 w' v' (l ++ [y]) → (w.alloc (.cells u.toArray t)).grownBy w' v.ownBlock → Below w0.heap.size (w.alloc (.cells u.toArray t)) w' → K (a.put o.dst v') w') :
 o.wp Tryz.prog a (w.alloc (.cells u.toArray t)) K Q:=by
 subst hgs
 refine append_m_wp hu hinf hzs hby s x ho v l hs (hg.later (Ext.alloc _ _)) [u] [y] rfl (fun i u' y' hi hy=>?_) (by simpa using h1) hx rfl (.inr ⟨_,0,rfl,fun j c hj=>by rw [Nat.zero_add,box_a];simpa using hj⟩) (by omega) h
 rcases i with _ | i
 ·simp at hi hy
  subst hi hy
  exact elem_keep hE (fun b _ hlt=>(Ext.alloc w (.cells u.toArray t)).block b hlt) (fun b hS _=>hS)
 ·simp at hi
theorem append_m {T ST : TypeId} {z : Value} {bytes : Nat} (hu : Tryz.prog.underlying ST = some (.slice T)) (hinf : (Tryz.prog.info? T).map (fun i=>(i.zero,i.size,i.bytes)) = some (some z,E.k,bytes)) (hzs : z.cells.size = E.k) (hby : bytes ≤ 1000)
 (hgd : o.guard = none) (s x : Operand) (ho : o.op = .call { callee:=.builtin .append,args:=#[s,x],argTypes:=#[ST,ST] }) {L : Option Nat} (v : Value) (l : List α) (hs : a.eval s = v) (hg : GrowM E S T L w0 w v l)
 {A : Option Addr} {m c : Nat} (us : List (List Value)) (ys : List α) (hlen : us.length = ys.length) (hE : ∀ (i : Nat) u y,us[i]? = some u → ys[i]? = some y → E.R (outer S v L) w u y) (h1 : ∀ c ∈ us.flatten,c.oneCell' = true) (hx : a.eval x = .slice A m c) (hm : m = ys.length) (hcs : Cells w A us.flatten) (hb : l.length + m ≤ 8000000)
 (h : ∀ v' w',GrowM E S T L w0 w' v' (l ++ ys) → w.grownBy w' v.ownBlock → Below w0.heap.size w w' → wpList Tryz.prog ops Q rest (a.put o.dst v') w') : wpList Tryz.prog ops Q (o :: rest) a w:=
 wpList_plain hgd fun _ hK=>append_m_wp hu hinf hzs hby s x ho v l hs hg us ys hlen hE h1 hx hm hcs hb fun v' w' k1 k2 k3=>hK _ _ (h v' w' k1 k2 k3)
theorem append_m1 {T ST : TypeId} {z : Value} {bytes : Nat} (hu : Tryz.prog.underlying ST = some (.slice T)) (hinf : (Tryz.prog.info? T).map (fun i=>(i.zero,i.size,i.bytes)) = some (some z,E.k,bytes)) (hzs : z.cells.size = E.k) (hby : bytes ≤ 1000)
 (hgd : o.guard = none) (s x : Operand) (ho : o.op = .call { callee:=.builtin .append,args:=#[s,x],argTypes:=#[ST,ST] }) {L : Option Nat} (v : Value) (l : List α) (hs : a.eval s = v) (hg : GrowM E S T L w0 w v l)
 {t : TypeId} {u : List Value} (y : α) (hE : E.R (outer S v L) w u y) (h1 : ∀ c ∈ u,c.oneCell' = true) {g : Nat} (hx : a.eval x = .slice (some ⟨g,0,none⟩) 1 1) (hgs : g = w.heap.size) (hb : l.length ≤ 4000000)
 (h : ∀ v' w',GrowM E S T L w0 w' v' (l ++ [y]) → (w.alloc (.cells u.toArray t)).grownBy w' v.ownBlock → Below w0.heap.size (w.alloc (.cells u.toArray t)) w' → wpList Tryz.prog ops Q rest (a.put o.dst v') w') :
 wpList Tryz.prog ops Q (o :: rest) a (w.alloc (.cells u.toArray t)):=
 wpList_plain hgd fun _ hK=>append_m1_wp hu hinf hzs hby s x ho v l hs hg y hE h1 hx hgs hb fun v' w' k1 k2 k3=>hK _ _ (h v' w' k1 k2 k3)
end
end Go.Proofs.YtejdpadhemeldaaGreatDoor
namespace Go.Proofs.YtejdpadhemeldaaGreatDoor
open Go.RowKit
set_option maxRecDepth 100000
def cmpT (t : ByteArray) (x : Att) : Int:=Lib.compareBytes x.type.data.toList t.data.toList
structure PlaceOf (t : ByteArray) (l : List Att) (i : Nat) (b : Bool) : Prop where
 le : i ≤ l.length
 low : ∀ (k : Nat) x,k < i → l[k]? = some x → cmpT t x < 0
 here : ∀ x,l[i]? = some x → 0 ≤ cmpT t x ∧ b = decide (cmpT t x = 0)
 none : l[i]? = none → b = false
theorem setcmp_any (x : Att) (t : ByteArray) (A : Option Addr) (n c : Nat) (w : World) : Calls Tryz.prog 88 #[.agg #[.string x.type,.slice A n c],.string t] w fun e w'=>e = .returned (.int .i64 (cmpT t x)) ∧ Ext w w':=by
 have HC : ∀ w,Calls Tryz.prog 89 #[.string x.type,.string t] w fun e w'=>e = .returned (.int .i64 (cmpT t x)) ∧ w' = w:=fun w=>(Tryz.strings_Compare x.type t w)
 go_enter Tryz.func88,Tryz.ntmps88
 go_wp2_with (go_at_call 89;(with_reducible refine (HC _).mono ?_);rintro e w1 ⟨rfl,rfl⟩)
 go_ret
 exact ⟨rfl,Ext.alloc _ _⟩
def BsSays (w : World) (t : ByteArray) (l : List Att) (e : Ending) (w' : World) : Prop:=∃ (i : Nat) (b : Bool),e = .returned (.tuple #[.int .i64 i,.bool b]) ∧ PlaceOf t l i b ∧ Ext w w'
theorem BsSays.of {w w' : World} {t : ByteArray} {l : List Att} {e : Ending} {i : Nat} {b : Bool} (h : e = .returned (.tuple #[.int .i64 i,.bool b])) (k : PlaceOf t l i b) (hx : Ext w w') : BsSays w t l e w':=⟨i,b,h,k,hx⟩
theorem bsearch_any {S : Nat → Prop} {A : Option Addr} {n c : Nat} {l : List Att} {w : World} (h : Row Elem.att S w A n c l) (t : ByteArray) (hs : ∀ (i j : Nat) x y,i ≤ j → l[i]? = some x → l[j]? = some y → cmpT t y < 0 → cmpT t x < 0) (hm : l.length ≤ 4000000) :
 Calls Tryz.prog 87 #[.slice A n c,.string t,.func (.func 88) #[] #[]] w (BsSays w t l):=by
 have HR:=hid h
 have hn : n ≤ 4000000:=by rw [h.len];exact hm
 have HLN:=hid h.len
 have HS:=hid hs
 have HC : ∀ x A n c w,Calls Tryz.prog 88 #[.agg #[.string x.type,.slice A n c],.string t] w fun e w'=>e = .returned (.int .i64 (cmpT t x)) ∧ Ext w w':=fun x A n c w=>setcmp_any x t A n c w
 clear h hs hm
 go_enter Tryz.func87,Tryz.ntmps87
 go_wp2
 go_loopw [9,10] (fun u v wr=>∃ (i j : Nat),i ≤ j ∧ j ≤ n ∧ u = .int .i64 i ∧ v = .int .i64 j ∧ Hid (∀ (k : Nat) x,k < i → l[k]? = some x → cmpT t x < 0) ∧ Hid (∀ (k : Nat) x,j ≤ k → l[k]? = some x → 0 ≤ cmpT t x) ∧ Hid (Ext w wr)) (fun u v _=>(intOf v).toNat - (intOf u).toNat)
 case atStart=>exact ⟨0,n,by omega,by omega,rfl,rfl,fun k x hk _=>by omega,fun k x hk hx=>by have:=(List.getElem?_eq_some_iff.1 hx).1;have:=HLN.out;omega,Ext.refl _⟩
 case round=>
  obtain ⟨i,j,hij,hjn,rfl,rfl,HL,HH,hx⟩:=hrel
  by_cases hlt : i < j
  ·have hlt' : (i : Int) < (j : Int):=by omega
   obtain ⟨b1,o1,v1,x1,rfl,g1,-,⟨A1,n1,c1,rfl,r1⟩,q1⟩:=(HR.out.ext hx.out).at_ (i:=(i + j) / 2) (by omega)
   have e10:=q1 0 _ rfl
   have e11:=q1 1 _ rfl
   simp only [Elem.att,Nat.add_zero] at e10 e11
   have HG:=hid g1
   have hcv : ((i : Int) + (j : Int)) / 2 = (((i + j) / 2 : Nat) : Int):=by omega
   have HCV:=hid hcv
   have HCX:=HC x1 A1 n1 c1
   clear q1 g1 r1 hcv HC
   by_cases hc : cmpT t x1 < 0
   ·have HLT:=hid hc
    go_wp2_with (go_at_call 88;(with_reducible refine (HCX _).mono ?_);rintro e w2 ⟨rfl,hx2⟩;have HX2:=hid (hx.out.trans hx2);clear hx2)
    refine ⟨⟨(i + j) / 2 + 1,j,by omega,hjn,by rw [HCV.out];go_num,rfl,fun k x hk hkx=>HS.out k ((i + j) / 2) x x1 (by omega) hkx HG.out ?_,HH.out,HX2.out⟩,?_⟩
    ·exact HLT.out
    ·simp [intOf];omega
   ·have hc0 : 0 ≤ cmpT t x1:=Int.not_lt.1 hc
    have HLT:=hid hc0
    clear hc
    go_wp2_with (go_at_call 88;(with_reducible refine (HCX _).mono ?_);rintro e w2 ⟨rfl,hx2⟩;have HX2:=hid (hx.out.trans hx2);clear hx2)
    refine ⟨⟨i,(i + j) / 2,by omega,by omega,rfl,by rw [HCV.out],HL.out,fun k x hk hkx=>Int.not_lt.1 fun hcx=>by have h1:=HS.out ((i + j) / 2) k x1 x (by omega) HG.out hkx hcx;have h2:=HLT.out;omega,HX2.out⟩,?_⟩
    simp [intOf];omega
  ·obtain rfl : j = i:=by omega
   by_cases hin : j < n
   ·obtain ⟨b1,o1,v1,x1,rfl,g1,-,⟨A1,n1,c1,rfl,r1⟩,q1⟩:=(HR.out.ext hx.out).at_ (i:=j) (by omega)
    have e10:=q1 0 _ rfl
    have e11:=q1 1 _ rfl
    simp only [Elem.att,Nat.add_zero] at e10 e11
    have HG:=hid g1
    have HCX:=HC x1 A1 n1 c1
    have HNL:=hid (HH.out j x1 (Nat.le_refl _) g1)
    have HZD : Hid (decide (cmpT t x1 = 0) = (cmpT t x1 == 0)):=by show _ = _;rw [Bool.eq_iff_iff];simp
    clear q1 g1 r1 HC
    have hc0:=HNL.out
    go_wp2_with (go_at_call 88;(with_reducible refine (HCX _).mono ?_);rintro e w2 ⟨rfl,hx2⟩;have HX2:=hid (hx.out.trans hx2);clear hx2)
    go_ret2
    refine BsSays.of (i:=j) rfl ⟨by have:=HLN.out;omega,HL.out,fun x hxx=>?_,fun hnn=>?_⟩ HX2.out
    ·obtain rfl : x1 = x:=by have:=HG.out;rw [hxx] at this;injection this with this;exact this.symm
     exact ⟨HNL.out,HZD.out.symm⟩
    ·rw [HG.out] at hnn;cases hnn
   ·obtain rfl : j = n:=by omega
    go_wp2
    go_ret2
    refine BsSays.of (i:=j) (b:=false) rfl ⟨by have:=HLN.out;omega,HL.out,fun x hxx=>?_,fun hnn=>rfl⟩ hx.out
    have:=(List.getElem?_eq_some_iff.1 hxx).1
    have:=HLN.out
    omega
end Go.Proofs.YtejdpadhemeldaaGreatDoor
