/- Lemmas of the walk that the last text of this claim joins. -/
import Derived.Test.YtejdpadhemeldaaGreatDoorZ43
import Derived.Test.YtejdpadhemeldaaGreatDoorZ42
import Derived.Test.YtejdpadhemeldaaGreatDoorZ40
set_option maxHeartbeats 40000000
set_option linter.unusedVariables false
set_option linter.unusedSimpArgs false
namespace Go.Proofs.YtejdpadhemeldaaGreatDoor
open Go.RowKit
open Go.Maps Go.MapKept Go.WideShapes Go.ChangeShapes Go.ChangeMaps
set_option maxRecDepth 100000
def getO (l : List Ent) (s : List UInt8) : Option Ent:=if codeR (partsB s) = 0 then entOf l (str (normalS s)) else none
def noEnt : Ent:=⟨⟨#[]⟩,[]⟩
def GetSays (w : World) (o : Option Ent) (e : Ending) (w' : World) : Prop:=
 ∃ A n c,e = .returned (.tuple #[.agg #[.string (o.getD noEnt).name,.slice A n c],.bool o.isSome]) ∧ Row Elem.att (fun _=>True) w' A n c (o.getD noEnt).atts ∧ Ext w w'
theorem Row.aside {α : Type} {E : Elem α} {S : Nat → Prop} {w : World} {A : Option Addr} {n c : Nat} {l : List α} (h : Row E S w A n c l) {k : Nat} (hk : ¬ S k) (i : Nat) (v : Value) : Row E S (w.setCell ⟨k,i,none⟩ v) A n c l:=
 h.same fun b hb=>heap_setCell_other _ _ _ _ (fun e=>hk (by have e2 : b = k:=e;rw [← e2];exact hb))
theorem get_idx {l : List Ent} {s : List UInt8} {r : Int} (h : Idx (isAt s) l r) : (r = -1 ∧ getO l s = none) ∨ ∃ (k : Nat) (x : Ent),r = k ∧ l[k]? = some x ∧ getO l s = some x:=by
 by_cases hc : codeR (partsB s) = 0
 ·have hP : isAt s = fun e=>decide (nmE e = bys (str (normalS s))):=funext fun e=>by unfold isAt;rw [bys_str,hc];simp
  rw [hP] at h
  unfold getO
  rw [if_pos hc]
  rcases h with ⟨rfl,h⟩ | ⟨k,rfl,h3,x,h4,h5⟩
  ·exact .inl ⟨rfl,entOf_any.2 h⟩
  ·have h6 : entOf (l.take k) (str (normalS s)) = none:=entOf_any.2 h3
   refine .inr ⟨k,x,rfl,h4,?_⟩
   have e1 : l = l.take k ++ x :: l.drop (k + 1):=by
    have hlt:=(List.getElem?_eq_some_iff.1 h4).1
    have e2 : l.drop k = x :: l.drop (k + 1):=by
     rw [List.drop_eq_getElem_cons hlt]
     rw [List.getElem?_eq_getElem hlt] at h4
     injection h4 with h4
     rw [h4]
    rw [← e2,List.take_append_drop]
   unfold entOf at h6 ⊢
   rw [e1,List.find?_append,h6]
   simp only [decide_eq_true_eq] at h5
   have e3 : x.name = str (normalS s):=by rw [← str_bys x.name];unfold nmE at h5;rw [h5,bys_str]
   simp [e3]
 ·have hP : isAt s = fun _=>false:=funext fun e=>by unfold isAt;simp [hc]
  rw [hP] at h
  unfold getO
  rw [if_neg hc]
  rcases h with ⟨rfl,h⟩ | ⟨k,rfl,h3,x,h4,h5⟩
  ·exact .inl ⟨rfl,rfl⟩
  ·cases h5
theorem tget_any {S : Nat → Prop} {w : World} {g B : Nat} {es : Array MapEntry} {clock : Nat} {l : List Ent} (h : TreeAt S w g B es clock l) (s : ByteArray) (hG : Gl w) (hf : ∀ e ∈ l,EntFits e) :
 Calls Tryz.prog 7 #[.pointer (some ⟨g,0,none⟩),.string s] w (GetSays w (getO l (bys s))):=by
 have HN : ∀ w',Ext w w' → Calls Tryz.prog 18 #[.string s] w' (NormalSays w' (bys s)):=fun w' hx=>dnnormal_any s w' (hG.ext hx)
 unfold NormalSays at HN
 have hsz : (str (normalS (bys s))).size ≤ maxLen:=by have:=(texts_small (bys s)).2;rw [str_size];simp only [maxLen];unfold normalS;omega
 have HO : Hid (getO l (bys s) = if codeR (partsB (bys s)) = 0 then entOf l (str (normalS (bys s))) else none):=rfl
 generalize getO l (bys s) = o at *
 generalize str (normalS (bys s)) = p at *
 have HB0:=hid (Bx.make (Ext.refl w) #[.string ⟨#[]⟩,.slice none 0 0] 31)
 show Calls _ _ _ _ (fun e w'=>GetSays w o e w')
 by_cases hc : codeR (partsB (bys s)) = 0
 ·rw [hc] at HN
  rw [if_pos hc] at HO
  have c0:=h.cell
  rcases h.low.find p with ⟨hn,hk⟩ | ⟨x,A,n,c,y,hn,hne,hr,hx,hk,hv⟩
  ·rw [hn] at HO
   have HLK : ∀ w',Ext w w' → (Instr.lookup 51 (.map (some B)) (.string p) true).run Tryz.prog w' = .ok (.tuple #[.agg #[.string ⟨#[]⟩,.slice none 0 0],.bool false]) w':=fun w' hx=>(h.map.ext hx).look_none p hsz hk
   have HCP : ∀ w',Ext w w' → Calls Tryz.prog 19 #[.agg #[.string ⟨#[]⟩,.slice none 0 0]] w' (CopyESays (fun _=>False) w' ⟨#[]⟩ []):=fun w' _=>copy_any (Row.nil _ _ _) _ (by simp) (by simp)
   unfold CopyESays at HCP
   clear hc hn hk hsz hG hf h
   go_enter Tryz.func7,Tryz.ntmps7
   go_wp2_with (first
    | (go_at_call 18;(with_reducible refine (HN _ HB0.out.ext).mono ?_);rintro e w1 ⟨rfl,hx1⟩;have HB1:=hid (HB0.out.later hx1);have k0:=cell_later c0 _ HB1.out.ext;have hlk:=HLK _ HB1.out.ext;have HB2:=hid (HB1.out.later (Ext.alloc _ (.cells #[.string ⟨#[]⟩,.slice none 0 0] 31)));clear hx1)
    | (go_at_call 19;(with_reducible refine (HCP _ HB2.out.ext).mono ?_);rintro e w2 ⟨A2,n2,c2,rfl,hr2,hx2⟩;have HR2:=hid hr2;have HB3:=hid (HB2.out.later hx2);have r0:=HB3.out.cell (i:=0) rfl;have r1:=HB3.out.cell (i:=1) rfl;have f0:=HB3.out.frozen 0;have f1:=HB3.out.frozen 1;clear hr2 hx2))
   (try simp only [Exit.inBlock,Exit.then])
   have HBF:=(HB3.out.set0 (.string ⟨#[]⟩)).set1 (.slice A2 n2 c2)
   refine ret_cell_tmp _ rfl rfl HBF Tryz.underlying31 rfl (by kernel_rfl) rfl ?_
   have hno : ¬ (False ∨ (w1.alloc (.cells #[.string ⟨#[]⟩,.slice none 0 0] 31)).heap.size ≤ w.heap.size):=fun h=>by have:=HB2.out.lt;rcases h with h | h;exact h;omega
   exact ⟨A2,n2,c2,by rw [HO.out];rfl,by rw [HO.out];exact ((HR2.out.aside hno 0 _).aside hno 1 _).mono fun _ _ _=>trivial,HBF.ext⟩
  ·rw [hn] at HO
   have hm : x ∈ l:=List.mem_of_find?_eq_some hn
   have HLK : ∀ w',Ext w w' → (Instr.lookup 51 (.map (some B)) (.string p) true).run Tryz.prog w' = .ok (.tuple #[.agg #[.string p,.slice A n c],.bool true]) w':=fun w' hx'=>by
    have:=(h.map.ext hx').look_some p hsz hx hk
    rw [hv] at this
    exact this
   have HCP : ∀ w',Ext w w' → Calls Tryz.prog 19 #[.agg #[.string p,.slice A n c]] w' (CopyESays (fun b=>S b ∧ b < w.heap.size) w' p x.atts):=fun w' hx=>copy_any (hr.ext hx) p (hf x hm).few (hf x hm).vals
   unfold CopyESays at HCP
   have HNE : Hid (x.name = p):=hne
   clear hc hn hk hsz hG hf h hm hx hv hr hne
   go_enter Tryz.func7,Tryz.ntmps7
   go_wp2_with (first
    | (go_at_call 18;(with_reducible refine (HN _ HB0.out.ext).mono ?_);rintro e w1 ⟨rfl,hx1⟩;have HB1:=hid (HB0.out.later hx1);have k0:=cell_later c0 _ HB1.out.ext;have hlk:=HLK _ HB1.out.ext;have HB2:=hid (HB1.out.later (Ext.alloc _ (.cells #[.string p,.slice A n c] 31)));clear hx1)
    | (go_at_call 19;(with_reducible refine (HCP _ HB2.out.ext).mono ?_);rintro e w2 ⟨A2,n2,c2,rfl,hr2,hx2⟩;have HR2:=hid hr2;have HB3:=hid (HB2.out.later hx2);have r0:=HB3.out.cell (i:=0) rfl;have r1:=HB3.out.cell (i:=1) rfl;have f0:=HB3.out.frozen 0;have f1:=HB3.out.frozen 1;clear hr2 hx2))
   (try simp only [Exit.inBlock,Exit.then])
   have HBF:=(HB3.out.set0 (.string p)).set1 (.slice A2 n2 c2)
   refine ret_cell_tmp _ rfl rfl HBF Tryz.underlying31 rfl (by kernel_rfl) rfl ?_
   have hno : ¬ ((S w.heap.size ∧ w.heap.size < w.heap.size) ∨ (w1.alloc (.cells #[.string p,.slice A n c] 31)).heap.size ≤ w.heap.size):=fun h=>by have:=HB2.out.lt;rcases h with h | h <;> omega
   exact ⟨A2,n2,c2,by rw [HO.out,← HNE.out];rfl,by rw [HO.out];exact ((HR2.out.aside hno 0 _).aside hno 1 _).mono fun _ _ _=>trivial,HBF.ext⟩
 ·rw [if_neg hc] at HO
  have t1 : (codeR (partsB (bys s)) != 0) = true:=by rw [bne_iff_ne];exact hc
  generalize codeR (partsB (bys s)) = cd at *
  clear hc hsz hG hf h
  go_enter Tryz.func7,Tryz.ntmps7
  go_wp2_with (go_at_call 18;(with_reducible refine (HN _ HB0.out.ext).mono ?_);rintro e w1 ⟨rfl,hx1⟩;have HB1:=hid (HB0.out.later hx1);have r0:=HB1.out.cell (i:=0) rfl;have r1:=HB1.out.cell (i:=1) rfl;have f0:=HB1.out.frozen 0;have f1:=HB1.out.frozen 1;clear hx1)
  (try simp only [Exit.inBlock,Exit.then])
  have HBF:=(HB1.out.set0 (.string ⟨#[]⟩)).set1 (.slice none 0 0)
  refine ret_cell_tmp _ rfl rfl HBF Tryz.underlying31 rfl (by kernel_rfl) rfl ?_
  exact ⟨none,0,0,by rw [HO.out];rfl,by rw [HO.out];exact Row.nil _ _ _,HBF.ext⟩
theorem rget_any {S : Nat → Prop} {w : World} {gw : Nat} {r : List Ent} (k : RTree S w gw r) (s : ByteArray) (hG : Gl w) (hf : ∀ e ∈ r,EntFits e) :
 Calls Tryz.prog 8 #[.pointer (some ⟨gw,0,none⟩),.string s] w (GetSays w (getO r (bys s))):=by
 obtain ⟨A,n,c,hk,hrow⟩:=k.ex
 have c0 : w.cell? ⟨gw,0,none⟩ = some (.slice A n c):=by rw [cell_of_row w gw 0 _ _ (0,0) hk];rfl
 have HAT : ∀ w',Ext w w' → Calls Tryz.prog 20 #[.slice A n c,.string s] w' (AtSays w' (bys s) r):=fun w' hx=>rat_any (hrow.ext hx) s (hG.ext hx)
 unfold AtSays at HAT
 obtain ⟨r0,hr0⟩:=Idx.ex (isAt (bys s)) r
 have HRU : Hid (∀ i,Idx (isAt (bys s)) r i → r0 = i):=fun i h=>hr0.one h
 have HB0:=hid (Bx.make (Ext.refl w) #[.string ⟨#[]⟩,.slice none 0 0] 31)
 have k1:=cell_later c0 _ (Ext.alloc w (.cells #[.string ⟨#[]⟩,.slice none 0 0] 31))
 show Calls _ _ _ _ (fun e w'=>GetSays w (getO r (bys s)) e w')
 rcases get_idx hr0 with ⟨rfl,ho⟩ | ⟨i,x,rfl,hi,ho⟩
 ·have HO:=hid ho
  clear ho hr0 k hk hrow hG hf
  generalize getO r (bys s) = o at *
  go_enter Tryz.func8,Tryz.ntmps8
  go_wp2_with (go_at_call 20;(with_reducible refine (HAT _ HB0.out.ext).mono ?_);rintro e w1 ⟨r9,rfl,hr9,hx1⟩;obtain rfl:=HRU.out r9 hr9;have HB1:=hid (HB0.out.later hx1);have r0:=HB1.out.cell (i:=0) rfl;have r1:=HB1.out.cell (i:=1) rfl;have f0:=HB1.out.frozen 0;have f1:=HB1.out.frozen 1;clear hx1 hr9)
  (try simp only [Exit.inBlock,Exit.then])
  have HBF:=(HB1.out.set0 (.string ⟨#[]⟩)).set1 (.slice none 0 0)
  refine ret_cell_tmp _ rfl rfl HBF Tryz.underlying31 rfl (by kernel_rfl) rfl ?_
  exact ⟨none,0,0,by rw [HO.out];rfl,by rw [HO.out];exact Row.nil _ _ _,HBF.ext⟩
 ·have HO:=hid ho
  have hin : i < n:=by have:=(List.getElem?_eq_some_iff.1 hi).1;have:=hrow.len;omega
  obtain ⟨b2,o2,v2,y2,rfl,g2,-,⟨A2,n2,c2,rfl,r2⟩,q2⟩:=hrow.at_ hin
  rw [hi] at g2
  injection g2 with g2
  subst g2
  have e20:=q2 0 _ rfl
  have e21:=q2 1 _ rfl
  simp only [Elem.ent,Nat.add_zero] at e20 e21
  have t1 : ¬ (i : Int) < 0:=by omega
  have t2 : (i : Int) < (n : Int):=by omega
  have HCP : ∀ w',Ext w w' → Calls Tryz.prog 21 #[.agg #[.string x.name,.slice A2 n2 c2]] w' (CopySays w' ⟨x.name,x.atts⟩):=fun w' hx=>rcopy_any (r2.ext hx) (hf x (List.mem_of_getElem? hi)).fewer (hf x (List.mem_of_getElem? hi)).vals
  unfold CopySays at HCP
  clear ho hr0 k hk hrow hG hf q2 r2 hi hin
  generalize getO r (bys s) = o at *
  go_enter Tryz.func8,Tryz.ntmps8
  go_wp2_with (first
   | (go_at_call 20;(with_reducible refine (HAT _ HB0.out.ext).mono ?_);rintro e w1 ⟨r9,rfl,hr9,hx1⟩;obtain rfl:=HRU.out r9 hr9;have HB1:=hid (HB0.out.later hx1);have k2:=cell_later c0 _ HB1.out.ext;have z20:=cell_later e20 _ HB1.out.ext;have z21:=cell_later e21 _ HB1.out.ext;clear hx1 hr9)
   | (go_at_call 21;(with_reducible refine (HCP _ HB1.out.ext).mono ?_);rintro e w2 ⟨A3,n3,c3,rfl,hr3,hx3⟩;have HR3:=hid hr3;have HB3:=hid (HB1.out.later hx3);have r0:=HB3.out.cell (i:=0) rfl;have r1:=HB3.out.cell (i:=1) rfl;have f0:=HB3.out.frozen 0;have f1:=HB3.out.frozen 1;clear hr3 hx3))
  (try simp only [Exit.inBlock,Exit.then])
  have HBF:=(HB3.out.set0 (.string x.name)).set1 (.slice A3 n3 c3)
  refine ret_cell_tmp _ rfl rfl HBF Tryz.underlying31 rfl (by kernel_rfl) rfl ?_
  have hno : ¬ w1.heap.size ≤ w.heap.size:=fun h=>by have:=HB1.out.lt;omega
  exact ⟨A3,n3,c3,by rw [HO.out];rfl,by rw [HO.out];exact ((HR3.out.aside hno 0 _).aside hno 1 _).mono fun _ _ _=>trivial,HBF.ext⟩
end Go.Proofs.YtejdpadhemeldaaGreatDoor
