/- Lemmas of the walk that the last text of this claim joins. -/
import Derived.Test.YtejdpadhemeldaaGreatDoorZ18
import Derived.Test.YtejdpadhemeldaaGreatDoorZ28
import Derived.Test.YtejdpadhemeldaaGreatDoorZ26
set_option maxHeartbeats 40000000
set_option linter.unusedVariables false
set_option linter.unusedSimpArgs false
namespace Go.Proofs.YtejdpadhemeldaaGreatDoor
open Go.RowKit
set_option maxRecDepth 100000
section
variable {α : Type} {E : Elem α} {S S' : Nat → Prop} {T : TypeId} {L : Option Nat} {w wr w' : World} {v : Value} {l : List α} {A : Option Addr} {n c : Nat}
theorem Row.cut_open (h : Row E S w A n c l) : ∃ us : List (List Value),us.length = l.length ∧ Cells w A us.flatten ∧ ∀ (i : Nat) u x,us[i]? = some u → l[i]? = some x → E.R S w u x:=by
 obtain ⟨h1,h2,h3,vss,h4,h5,h6⟩:=h
 exact ⟨vss,by omega,h5.cells,h6⟩
theorem GrowM.lit0 (w : World) : GrowM E S T none w (w.alloc (.cells #[] T)) (.slice (some ⟨w.heap.size,0,none⟩) 0 0) ([] : List α):=
 ⟨⟨[],rfl,own_empty w _ (Nat.le_refl _) _ _,fun i u x h=>by simp at h⟩,Ext.alloc _ _,fun g hg=>by cases hg⟩
theorem GrowM.mono (h : GrowM E S T L w wr v l) (hs : ∀ b,S b → S' b) : GrowM E S' T L w wr v l:=by
 obtain ⟨⟨vss,q1,q2,q3⟩,q4,q5⟩:=h
 exact ⟨⟨vss,q1,q2,fun i u x hi hl=>E.mono (q3 i u x hi hl) fun b _ hb=>⟨hs b hb.1,hb.2⟩⟩,q4,q5⟩
theorem GrowM.low (h : GrowM E S T L w wr v l) {g : Nat} (hg : g < w.heap.size) : v.ownBlock ≠ some g:=fun e=>by have:=(h.lt e).1;omega
end
theorem att_one {S : Nat → Prop} {w : World} {us : List (List Value)} {l : List Att} (hl : us.length = l.length) (h : ∀ (i : Nat) u x,us[i]? = some u → l[i]? = some x → Elem.att.R S w u x) : ∀ c ∈ us.flatten,c.oneCell' = true:=by
 intro c hc
 obtain ⟨u,hu,hcu⟩:=List.mem_flatten.1 hc
 obtain ⟨i,hi,rfl⟩:=List.mem_iff_getElem.1 hu
 obtain ⟨A,n,c',e,-⟩:=h i us[i] (l[i]'(by omega)) (List.getElem?_eq_getElem hi) (List.getElem?_eq_getElem (by omega))
 rw [e] at hcu
 simp only [List.mem_cons,List.not_mem_nil,or_false] at hcu
 rcases hcu with rfl | rfl <;> rfl
theorem attclone_any {S : Nat → Prop} {A : Option Addr} {n c : Nat} {l : List Att} {w : World} (h : Row Elem.att S w A n c l) (hm : l.length ≤ 4000000) :
 Calls Tryz.prog 38 #[.slice A n c] w fun e w'=>∃ v,e = .returned v ∧ GrowM Elem.att S 42 none w w' v l:=by
 have hl:=h.len
 rcases A with _ | a
 ·have hx : l = []:=by
   rcases Nat.eq_zero_or_pos n with h0 | h0
   ·exact h.nil_iff.1 h0
   ·obtain ⟨b,o,v,x,e,_⟩:=h.at_ h0;cases e
  subst hx
  have hz:=fun W=>Lib.run_eql_slice_nil (P:=Tryz.prog) W 29 42 none n c 0 0 Tryz.underlying29
  clear hl h
  go_enter Tryz.func38,Tryz.ntmps38
  go_wp2
  go_ret
  exact ⟨_,rfl,GrowM.nil (Ext.refl w) (fun g hg=>by cases hg)⟩
 ·have hz:=fun W=>Lib.run_eql_slice_nil (P:=Tryz.prog) W 29 42 (some a) n c 0 0 Tryz.underlying29
  obtain ⟨us,u1,u2,u3⟩:=h.cut_open
  have HU1:=hid u1
  have HC:=hid (u2.below (Ext.alloc w (.cells #[] 42)))
  have HO:=hid (att_one u1 u3)
  have HG:=hid (GrowM.lit0 (E:=Elem.att) (S:=S) (T:=42) w)
  have HE : Hid (∀ (i : Nat) u y,us[i]? = some u → l[i]? = some y → Elem.att.R (outer S (.slice (some ⟨w.heap.size,0,none⟩) 0 0) none) (w.alloc (.cells #[] 42)) u y):=fun i u y hi hy=>HG.out.old (fun _ _ hb=>hb) (u3 i u y hi hy)
  have HL:=hid hl
  have HN : Hid (n ≤ 4000000):=by show _ ≤ _;omega
  clear hl h hm u1 u2 u3
  go_enter Tryz.func38,Tryz.ntmps38
  go_wp2_with (at_builtin;refine append_m Tryz.underlying29 infoAtt rfl (by decide) rfl _ _ rfl _ _ rfl HG.out us l HU1.out HE.out HO.out rfl HL.out HC.out (by have:=HN.out;simp only [List.length_nil];omega) ?_;intro v' w1 hg1 _ _;have HG1:=hid hg1;clear hg1)
  go_ret
  exact ⟨_,rfl,by have:=HG1.out;rwa [List.nil_append] at this⟩
theorem elem_atts : Tryz.prog.underlying 29 = some (.slice (Tryz.prog.elem 29)):=by kernel_rfl
theorem size_att2 (w : World) : (sizeOf (Tryz.prog.elem 29)).run Tryz.prog w = .ok 2 w:=by kernel_rfl
theorem aslice_l (A : Option Addr) (n c l : Nat) (hlk : l ≤ n) (L : Int) (hL : L = l) :
 ∀ w,(Instr.sliceAt 29 (.slice A n c) (some (.int .i64 L)) none none).run Tryz.prog w = .ok (.slice (cutA A l c 2) (n - l) (c - l)) w:=fun w=>by
 subst hL
 have h1 : (l : Int) ≤ (n : Int):=by omega
 have:=run_slice_l (P:=Tryz.prog) w 29 A n c elem_atts .i64 (l : Int) (by omega) h1
 rw [run_sliceAt_slice w 29 _ _ _ _ elem_atts,this,size_att2]
 simp only [sliced,cutA,Result.andThen,Int.toNat_natCast]
theorem aslice_h (A : Option Addr) (n c k : Nat) (hlk : k ≤ c) :
 ∀ w,(Instr.sliceAt 29 (.slice A n c) none (some (.int .i64 (k : Int))) none).run Tryz.prog w = .ok (.slice (cutA A 0 c 2) k c) w:=fun w=>by
 have h2 : (k : Int) ≤ (c : Int):=by omega
 have:=run_slice_h (P:=Tryz.prog) w 29 A n c elem_atts .i64 (k : Int) (by omega) h2
 rw [run_sliceAt_slice w 29 _ _ _ _ elem_atts,this,size_att2]
 simp only [sliced,cutA,Result.andThen,Int.toNat_natCast,Nat.sub_zero]
def setA (l : List Att) (t : ByteArray) (vs : List ByteArray) (i : Nat) (b : Bool) : List Att:=l.take i ++ (if vs = [] then [] else [⟨t,vs⟩]) ++ l.drop (if b then i + 1 else i)
def SetSays (S : Nat → Prop) (w : World) (nm : ByteArray) (l : List Att) (t : ByteArray) (vs : List ByteArray) (e : Ending) (w' : World) : Prop:=
 ∃ i b A n c,e = .returned (.agg #[.string nm,.slice A n c]) ∧ PlaceOf t l i b ∧ Row Elem.att (fun x=>S x ∨ w.heap.size ≤ x) w' A n c (setA l t vs i b) ∧ Ext w w'
theorem set_any {S T : Nat → Prop} {A B : Option Addr} {n c m d : Nat} {l : List Att} {vs : List ByteArray} {w : World} (h : Row Elem.att S w A n c l) (hvs : Row Elem.str T w B m d vs) (nm t : ByteArray)
 (hs : ∀ (i j : Nat) x y,i ≤ j → l[i]? = some x → l[j]? = some y → cmpT t y < 0 → cmpT t x < 0) (hl : l.length ≤ 2000000) (hv : vs.length ≤ 8796093022208) :
 Calls Tryz.prog 50 #[.agg #[.string nm,.slice A n c],.string t,.slice B m d] w (SetSays S w nm l t vs):=by
 have HR:=hid h.lt
 have HLN:=hid h.len
 have HL:=hid hl
 have HM:=hid hvs.len
 have hn : n ≤ 2000000:=by have:=h.len;omega
 have hm : m ≤ 8796093022208:=by have:=hvs.len;omega
 have hnc:=h.cap
 have HB0:=hid (((Bx.make (Ext.refl w) #[.string nm,.slice A n c] 31).later (Ext.alloc _ (.cells #[.string ⟨#[]⟩,.slice none 0 0] 31))))
 have HB1:=hid (Bx.make (Ext.alloc w (.cells #[.string nm,.slice A n c] 31)) #[.string ⟨#[]⟩,.slice none 0 0] 31)
 rw [show (w.alloc (.cells #[.string nm,.slice A n c] 31)).heap.size = w.heap.size + 1 by simp] at HB1
 have HBS : ∀ w',Ext w w' → Calls Tryz.prog 87 #[.slice A n c,.string t,.func (.func 88) #[] #[]] w' (BsSays w' t l):=fun w' hx=>bsearch_any (h.ext hx) t hs (by omega)
 unfold BsSays at HBS
 have HCV : ∀ w',Ext w w' → Calls Tryz.prog 39 #[.slice B m d] w' fun e w''=>∃ A' n' c',e = .returned (.slice A' n' c') ∧ Row Elem.str (fun b=>w'.heap.size ≤ b) w'' A' n' c' vs ∧ Ext w' w'':=fun w' hx=>strclone_any (hvs.ext hx) hv
 have HCA : ∀ k w',k ≤ n → Ext w w' → Calls Tryz.prog 38 #[.slice (cutA A 0 c 2) k c] w' fun e w''=>∃ v,e = .returned v ∧ GrowM Elem.att (fun b=>S b ∧ b < w.heap.size) 42 none w' w'' v (l.take k):=fun k w' hk hx=>attclone_any ((h.lt.head hk).ext hx) (by rw [List.length_take];omega)
 show Calls _ _ _ _ (fun e w'=>SetSays S w nm l t vs e w')
 clear h hvs hs hl hv
 by_cases hv0 : vs = []
 ·have hm0 : m = 0:=by have:=HM.out;rw [hv0] at this;exact this
  subst hm0
  have HV0:=hid hv0
  clear hv0
  go_enter Tryz.func50,Tryz.ntmps50
  go_wp2_with
   (first
     | (go_at_call 87;(with_reducible refine (HBS _ HB0.out.ext).mono ?_);rintro e w1 ⟨i,b,rfl,hp,hx1⟩;have HP:=hid hp;have HB2:=hid (HB0.out.later hx1);have HB3:=hid (HB1.out.later hx1);have p1:=HB2.out.cell (i:=1) rfl;have hi : i ≤ n:=(by have:=hp.le;have:=HLN.out;omega);have hs1:=aslice_h A n c i (by omega);have hb : b = true → i + 1 ≤ n:=(by intro hb;have h1:=hp.none;rcases hz : l[i]? with _ | x;(rw [h1 hz] at hb;cases hb);(have:=(List.getElem?_eq_some_iff.1 hz).1;have:=HLN.out;omega));clear hx1 hp;cases b;all_goals (first | (obtain ⟨k,hk⟩ : ∃ k,k = i + 1:=⟨_,rfl⟩;have hkn : k ≤ n:=(by have:=hb rfl;omega);have hs2:=aslice_l A n c k hkn ((i : Int) + 1) (by omega)) | (obtain ⟨k,hk⟩ : ∃ k,k = i:=⟨_,rfl⟩;have hkn : k ≤ n:=(by omega);have hs2:=aslice_l A n c k hkn (i : Int) (by omega)));all_goals (have HK:=hid hk;obtain ⟨us,u1,u2,u3⟩:=((HR.out.tail hkn).ext HB2.out.ext).cut_open;have HU1:=hid u1;have HU2:=hid u2;have HU3:=hid u3;have HTL : Hid (n - k = (l.drop k).length):=(by (show _ = _);rw [List.length_drop];have:=HLN.out;omega);clear u1 u2 u3 hb hk hkn))
     | (go_at_call 38;(with_reducible refine (HCA i _ hi HB2.out.ext).mono ?_);rintro e w2 ⟨v2,rfl,hg2⟩;have HG2:=hid (hg2.mono (S':=fun x=>(S x ∧ x < w.heap.size) ∨ w.heap.size + 2 ≤ x) (fun _ h=>.inl h));have HB4:=hid (HB2.out.later hg2.ext);have HB5:=hid (HB3.out.later hg2.ext);have p2:=HB4.out.cell (i:=1) rfl;have HN0:=hid (HG2.out.low HB2.out.lt);have HN1:=hid (HG2.out.low HB3.out.lt);have HHE : Hid (∀ (i : Nat) u y,us[i]? = some u → (l.drop k)[i]? = some y → Elem.att.R (outer (fun x=>(S x ∧ x < w.heap.size) ∨ w.heap.size + 2 ≤ x) v2 none) w2 u y):=(fun i u y hu hy=>HG2.out.old (fun _ _ h=>.inl h) (HU3.out i u y hu hy));have HCS:=hid (HU2.out.below hg2.ext);have HTI : Hid ((l.take i).length ≤ 2000000):=(by (show _ ≤ _);have:=List.length_take_le i l;have:=HL.out;omega);clear hg2 p1)
     | fail
     | (at_builtin;refine append_m Tryz.underlying29 infoAtt rfl (by decide) rfl _ _ rfl _ _ rfl HG2.out us (l.drop k) HU1.out HHE.out (att_one HU1.out HU3.out) rfl HTL.out HCS.out (by have:=HTI.out;have:=HTL.out;have:=HLN.out;omega) ?_;intro v3 w3 hg3 k1 k2;obtain ⟨ln,hln⟩ : ∃ x,x = (l.take i ++ l.drop k).length:=⟨_,rfl⟩;obtain ⟨A6,c6,hv6,hr6⟩:=hg3.row;rw [← hln] at hv6 hr6;subst hv6;clear hln;have HR6:=hid hr6;have hk2:=Below.mono k2 (ext_sz HB2.out.ext);have HB6:=hid (HB4.out.grown k1 HN0.out hk2);have HB7:=hid (HB5.out.grown k1 HN1.out hk2);have p3:=HB6.out.cell (i:=0) rfl;have f3:=HB6.out.frozen 1;have p4:=HB6.out.cell (i:=1) rfl;have r0:=HB7.out.cell (i:=0) rfl;have r1:=HB7.out.cell (i:=1) rfl;have g0:=HB7.out.frozen 0;have g1:=HB7.out.frozen 1;clear hg3 k1 k2 hk2 hr6))
  all_goals
   have HBF:=((HB7.out.aside (Nat.le_refl _) (by omega) 1 (.slice A6 ln c6)).set0 (.string nm)).set1 (.slice A6 ln c6)
   have hlt3:=HB3.out.lt
   have HRF:=hid ((HR6.out.same (w':=((w3.setCell ⟨w.heap.size,1,none⟩ (.slice A6 ln c6)).setCell ⟨w.heap.size + 1,0,none⟩ (.string nm)).setCell ⟨w.heap.size + 1,1,none⟩ (.slice A6 ln c6)) fun b hb=>by
    have hne : b ≠ w.heap.size + 1:=by rcases hb with (hb | hb) | hb <;> omega
    have hne2 : b ≠ w.heap.size:=by rcases hb with (hb | hb) | hb <;> omega
    rw [heap_setCell_other _ _ _ _ hne,heap_setCell_other _ _ _ _ hne,heap_setCell_other _ _ _ _ hne2]).mono (T:=fun x=>S x ∨ w.heap.size ≤ x) fun b _ hb=>by
     rcases hb with (hb | hb) | hb
     ·exact .inl hb.1
     ·exact .inr (by omega)
     ·exact .inr (by omega))
   refine ret_cell1 _ rfl rfl HBF Tryz.underlying31 rfl (by kernel_rfl) rfl ?_
   refine ⟨i,_,A6,ln,c6,rfl,HP.out,?_,HBF.ext⟩
   unfold setA
   rw [if_pos HV0.out]
   simp only [if_true,Bool.false_eq_true,if_false,List.append_nil]
   have h:=HRF.out
   rw [HK.out] at h
   exact h
 ·have hm0 : 0 < (m : Int):=by have:=HM.out;have:=List.length_pos_iff.2 hv0;omega
  have HV0:=hid hv0
  clear hv0
  go_enter Tryz.func50,Tryz.ntmps50
  go_wp2_with
   (first
     | (go_at_call 87;(with_reducible refine (HBS _ HB0.out.ext).mono ?_);rintro e w1 ⟨i,b,rfl,hp,hx1⟩;have HP:=hid hp;have HB2:=hid (HB0.out.later hx1);have HB3:=hid (HB1.out.later hx1);have p1:=HB2.out.cell (i:=1) rfl;have hi : i ≤ n:=(by have:=hp.le;have:=HLN.out;omega);have hs1:=aslice_h A n c i (by omega);have hb : b = true → i + 1 ≤ n:=(by intro hb;have h1:=hp.none;rcases hz : l[i]? with _ | x;(rw [h1 hz] at hb;cases hb);(have:=(List.getElem?_eq_some_iff.1 hz).1;have:=HLN.out;omega));clear hx1 hp;cases b;all_goals (first | (obtain ⟨k,hk⟩ : ∃ k,k = i + 1:=⟨_,rfl⟩;have hkn : k ≤ n:=(by have:=hb rfl;omega);have hs2:=aslice_l A n c k hkn ((i : Int) + 1) (by omega)) | (obtain ⟨k,hk⟩ : ∃ k,k = i:=⟨_,rfl⟩;have hkn : k ≤ n:=(by omega);have hs2:=aslice_l A n c k hkn (i : Int) (by omega)));all_goals (have HK:=hid hk;obtain ⟨us,u1,u2,u3⟩:=((HR.out.tail hkn).ext HB2.out.ext).cut_open;have HU1:=hid u1;have HU2:=hid u2;have HU3:=hid u3;have HTL : Hid (n - k = (l.drop k).length):=(by (show _ = _);rw [List.length_drop];have:=HLN.out;omega);clear u1 u2 u3 hb hk hkn))
     | (go_at_call 38;(with_reducible refine (HCA i _ hi HB2.out.ext).mono ?_);rintro e w2 ⟨v2,rfl,hg2⟩;have HG2:=hid (hg2.mono (S':=fun x=>(S x ∧ x < w.heap.size) ∨ w.heap.size + 2 ≤ x) (fun _ h=>.inl h));have HB4:=hid (HB2.out.later hg2.ext);have HB5:=hid (HB3.out.later hg2.ext);have p2:=HB4.out.cell (i:=1) rfl;have HN0:=hid (HG2.out.low HB2.out.lt);have HN1:=hid (HG2.out.low HB3.out.lt);have HHE : Hid (∀ (i : Nat) u y,us[i]? = some u → (l.drop k)[i]? = some y → Elem.att.R (outer (fun x=>(S x ∧ x < w.heap.size) ∨ w.heap.size + 2 ≤ x) v2 none) w2 u y):=(fun i u y hu hy=>HG2.out.old (fun _ _ h=>.inl h) (HU3.out i u y hu hy));have HCS:=hid (HU2.out.below hg2.ext);have HTI : Hid ((l.take i).length ≤ 2000000):=(by (show _ ≤ _);have:=List.length_take_le i l;have:=HL.out;omega);clear hg2 p1)
     | (go_at_call 39 ; (with_reducible refine (HCV _ HB4.out.ext).mono ?_);rintro e w4 ⟨A4,n4,c4,rfl,hr4,hx4⟩;have hz2:=ext_sz HB4.out.ext;have hlt3:=HB3.out.lt;have hz12:=ext_sz HG2.out.ext;have HE4:=hid (HG2.out.new (w1:=w4) (S':=fun b=>w2.heap.size ≤ b) (fun b _ hb=>by have hb2 : w2.heap.size ≤ b:=hb;exact .inr (by omega)) (fun b hb=>.inr hb) (u:=[.string t,.slice A4 n4 c4]) (x:=(⟨t,vs⟩ : Att)) ⟨A4,n4,c4,rfl,hr4⟩);have HG4:=hid (HG2.out.later hx4);have HB14:=hid (HB4.out.later hx4);have HB15:=hid (HB5.out.later hx4);clear hz2 hlt3 hz12 hr4 hx4) | (at_builtin;refine append_m1 Tryz.underlying29 infoAtt rfl (by decide) rfl _ _ rfl _ _ rfl HG4.out (u:=[.string t,.slice A4 n4 c4]) ⟨t,vs⟩ HE4.out (by intro c hc;simp at hc;rcases hc with rfl | rfl <;> rfl) rfl rfl (by have:=HTI.out;omega) ?_;intro v5 w5 hg5 k1 k2;have HG5:=hid hg5;have hk2:=Below.mono k2 (ext_sz HB2.out.ext);have HB8:=hid ((HB14.out.later (Ext.alloc _ _)).grown k1 HN0.out hk2);have HB9:=hid ((HB15.out.later (Ext.alloc _ _)).grown k1 HN1.out hk2);have HN8:=hid (HG5.out.low HB2.out.lt);have HN9:=hid (HG5.out.low HB3.out.lt);have HHE5 : Hid (∀ (i : Nat) u y,us[i]? = some u → (l.drop k)[i]? = some y → Elem.att.R (outer (fun x=>(S x ∧ x < w.heap.size) ∨ w.heap.size + 2 ≤ x) v5 none) w5 u y):=(fun i u y hu hy=>HG5.out.old (fun _ _ h=>.inl h) (HU3.out i u y hu hy));have HCS5:=hid (HU2.out.below hg5.ext);have p5:=HB8.out.cell (i:=1) rfl;have HLI : Hid ((l.take i ++ [(⟨t,vs⟩ : Att)]).length ≤ 2000001):=(by (show _ ≤ _);have:=HTI.out;rw [List.length_append];simp only [List.length_cons,List.length_nil];omega);clear hg5 k1 k2 hk2)
     | (at_builtin;refine append_m Tryz.underlying29 infoAtt rfl (by decide) rfl _ _ rfl _ _ rfl HG5.out us (l.drop k) HU1.out HHE5.out (att_one HU1.out HU3.out) rfl HTL.out HCS5.out (by have:=HLI.out;have:=HTL.out;have:=HLN.out;omega) ?_;intro v3 w3 hg3 k1 k2;obtain ⟨ln,hln⟩ : ∃ x,x = (l.take i ++ [(⟨t,vs⟩ : Att)] ++ l.drop k).length:=⟨_,rfl⟩;obtain ⟨A6,c6,hv6,hr6⟩:=hg3.row;rw [← hln] at hv6 hr6;subst hv6;clear hln;have HR6:=hid hr6;have hk2:=Below.mono k2 (ext_sz HB2.out.ext);have HB6:=hid (HB8.out.grown k1 HN8.out hk2);have HB7:=hid (HB9.out.grown k1 HN9.out hk2);have p3:=HB6.out.cell (i:=0) rfl;have f3:=HB6.out.frozen 1;have p4:=HB6.out.cell (i:=1) rfl;have r0:=HB7.out.cell (i:=0) rfl;have r1:=HB7.out.cell (i:=1) rfl;have g0:=HB7.out.frozen 0;have g1:=HB7.out.frozen 1;clear hg3 k1 k2 hk2 hr6))
  all_goals
   have HBF:=((HB7.out.aside (Nat.le_refl _) (by omega) 1 (.slice A6 ln c6)).set0 (.string nm)).set1 (.slice A6 ln c6)
   have hlt3:=HB3.out.lt
   have HRF:=hid ((HR6.out.same (w':=((w3.setCell ⟨w.heap.size,1,none⟩ (.slice A6 ln c6)).setCell ⟨w.heap.size + 1,0,none⟩ (.string nm)).setCell ⟨w.heap.size + 1,1,none⟩ (.slice A6 ln c6)) fun b hb=>by
    have hne : b ≠ w.heap.size + 1:=by rcases hb with (hb | hb) | hb <;> omega
    have hne2 : b ≠ w.heap.size:=by rcases hb with (hb | hb) | hb <;> omega
    rw [heap_setCell_other _ _ _ _ hne,heap_setCell_other _ _ _ _ hne,heap_setCell_other _ _ _ _ hne2]).mono (T:=fun x=>S x ∨ w.heap.size ≤ x) fun b _ hb=>by
     rcases hb with (hb | hb) | hb
     ·exact .inl hb.1
     ·exact .inr (by omega)
     ·exact .inr (by omega))
   refine ret_cell1 _ rfl rfl HBF Tryz.underlying31 rfl (by kernel_rfl) rfl ?_
   refine ⟨i,_,A6,ln,c6,rfl,HP.out,?_,HBF.ext⟩
   unfold setA
   rw [if_neg HV0.out]
   simp only [if_true,Bool.false_eq_true,if_false]
   have h:=HRF.out
   rw [HK.out] at h
   exact h
end Go.Proofs.YtejdpadhemeldaaGreatDoor
