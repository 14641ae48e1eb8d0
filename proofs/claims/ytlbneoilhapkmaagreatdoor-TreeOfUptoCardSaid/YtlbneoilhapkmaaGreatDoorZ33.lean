/- Lemmas of the walk that the last text of this claim joins. -/
import Derived.Test.YtlbneoilhapkmaaGreatDoorZ32
set_option maxHeartbeats 40000000
set_option linter.unusedVariables false
set_option linter.unusedSimpArgs false
namespace Go.Proofs.YtlbneoilhapkmaaGreatDoor
open Go.RowKit
set_option maxRecDepth 100000
def badX (n : List UInt8) (x : ByteArray) : Bool:=(valZ n (bys x)).2 != 0
def badV (n : List UInt8) (l : List ByteArray) : Bool:=l.any (badX n)
theorem wrong1_any (n x : ByteArray) (g1 : Nat) (w : World) (hG : Gu w) (hn : n.size ≤ 4000000) (hc1 : w.cell? ⟨g1,0,none⟩ = some (.string n)) :
 Calls Tryz.prog 189 #[.string x,.pointer (some ⟨g1,0,none⟩)] w fun e w'=>e = .returned (.bool (badX (bys n) x)) ∧ Ext w w':=by
 have HV : Calls Tryz.prog 177 #[.string n,.string x] w (ValZSays w (bys n) (bys x)):=dnvalueZ_any n x w hG hn
 unfold ValZSays at HV
 have HLD : Hid (badX (bys n) x = ((valZ (bys n) (bys x)).2 != 0)):=rfl
 clear hG hn
 generalize badX (bys n) x = r at *
 generalize valZ (bys n) (bys x) = q at *
 obtain ⟨q1,q2⟩:=q
 simp only at HV HLD
 go_enter Tryz.func189,Tryz.ntmps189
 go_wp2_with (go_at_call 177;(with_reducible refine HV.mono ?_);rintro e w1 ⟨rfl,hx1⟩;have HX1:=hid hx1;clear hx1)
 go_ret
 exact ⟨by rw [HLD.out];rfl,HX1.out⟩
theorem indexwrong_any {S : Nat → Prop} {A : Option Addr} {n c : Nat} {l : List ByteArray} {w : World} (h : Row Elem.str S w A n c l) (nm : ByteArray) (g1 : Nat) (hG : Gu w) (hn : nm.size ≤ 4000000)
 (hc1 : w.cell? ⟨g1,0,none⟩ = some (.string nm)) :
 Calls Tryz.prog 197 #[.slice A n c,.func (.func 189) #[] #[.pointer (some ⟨g1,0,none⟩)]] w fun e w'=>
  ∃ r : Int,e = .returned (.int .i64 r) ∧ Idx (badX (bys nm)) l r ∧ Ext w w':=by
 have hl:=hid h.len
 have hnl : n ≤ 9223372036854775807:=by have:=h.cap;have:=h.most;simp only [maxLen] at this;omega
 have HC2 : ∀ x wr,Ext w wr → Calls Tryz.prog 189 #[.string x,.pointer (some ⟨g1,0,none⟩)] wr fun e w'=>e = .returned (.bool (badX (bys nm) x)) ∧ Ext wr w':=
  fun x wr hx=>wrong1_any nm x g1 wr (hG.ext hx) hn (cell_later hc1 _ hx)
 clear hG hn hc1
 generalize badX (bys nm) = P at *
 go_enter Tryz.func197,Tryz.ntmps197
 go_wp2
 go_loopw [8] (fun i wr=>∃ j : Nat,j ≤ n ∧ i = .int .i64 j ∧ Hid ((l.take j).any P = false) ∧ Hid (Ext w wr)) (fun i _=>n - (intOf i).toNat)
 case atStart=>exact ⟨0,by omega,rfl,by simp [Hid],Ext.refl w⟩
 case round=>
  obtain ⟨j,hj,rfl,Htk,hx⟩:=hrel
  by_cases hlt : j < n
  ·obtain ⟨b1,o1,rfl,c1⟩:=(h.ext hx.out).str_cell (by omega)
   have e1:=c1 j hlt
   clear c1
   have g1 : l[j]? = some (l[j]?.getD ByteArray.empty):=by have:=hl.out;rw [List.getElem?_eq_getElem (by omega)];simp
   have Hg:=hid g1
   clear g1
   generalize l[j]?.getD ByteArray.empty = x1 at *
   cases hp : P x1
   ·have Hp:=hid hp
    clear hp
    go_wp2_with (go_at_call 189;(with_reducible refine (HC2 _ _ hx.out).mono ?_);rintro e w1 ⟨he,hx1⟩;rw [Hp.out] at he;subst he;have HX1:=hid hx1;clear hx1)
    exact ⟨⟨j + 1,by omega,by go_num,any_take' Htk.out Hg.out Hp.out,hx.out.trans HX1.out⟩,by simp [intOf];omega⟩
   ·have Hp:=hid hp
    clear hp
    go_wp2_with (go_at_call 189;(with_reducible refine (HC2 _ _ hx.out).mono ?_);rintro e w1 ⟨he,hx1⟩;rw [Hp.out] at he;subst he;have HX1:=hid hx1;clear hx1)
    go_ret
    exact ⟨_,rfl,.inr ⟨j,rfl,Htk.out,_,Hg.out,Hp.out⟩,hx.out.trans HX1.out⟩
  ·obtain rfl : j = n:=by omega
   go_wp2
   go_ret
   have h9:=Htk.out
   rw [List.take_of_length_le (Nat.le_of_eq hl.out.symm)] at h9
   exact ⟨_,rfl,.inl ⟨rfl,h9⟩,hx.out⟩
theorem wrong_any {S : Nat → Prop} {A : Option Addr} {n c : Nat} {l : List ByteArray} {w : World} (h : Row Elem.str S w A n c l) (nm : ByteArray) (hG : Gu w) (hn : nm.size ≤ 4000000) :
 Calls Tryz.prog 116 #[.string nm,.slice A n c] w fun e w'=>e = .returned (.bool (badV (bys nm) l)) ∧ Ext w w':=by
 have HB0:=hid (Bx.make (Ext.refl w) #[.string nm] 9)
 have HI:=indexwrong_any (h.ext HB0.out.ext) nm w.heap.size (hG.ext HB0.out.ext) hn (HB0.out.cell (i:=0) rfl)
 have hmf : ∀ (fn : Fn) (first cap : Array Value) (w : World),(Instr.makeFunc fn first cap).run Tryz.prog w = .ok (.func fn first cap) w:=fun _ _ _ _=>rfl
 have HC : Calls Tryz.prog 128 #[.slice A n c,.func (.func 189) #[] #[.pointer (some ⟨w.heap.size,0,none⟩)]] (w.alloc (.cells #[.string nm] 9)) fun e w'=>e = .returned (.bool (badV (bys nm) l)) ∧ Ext (w.alloc (.cells #[.string nm] 9)) w':=by
  clear HB0 h hG hn hmf
  have HD : Hid (badV (bys nm) l = l.any (badX (bys nm))):=rfl
  generalize badV (bys nm) l = r at *
  generalize badX (bys nm) = P at *
  go_enter Tryz.func128,Tryz.ntmps128
  go_wp2_with (go_at_call 197;(with_reducible refine HI.mono ?_);rintro e w1 ⟨r1,rfl,hr,hx1⟩;have HRR:=hid hr.has;have HX1:=hid hx1;clear hr hx1)
  go_ret
  exact ⟨by rw [HD.out,← HRR.out];rfl,HX1.out⟩
 clear HI h hG hn
 generalize badV (bys nm) l = r at *
 go_enter Tryz.func116,Tryz.ntmps116
 go_wp2_with (go_at_call 128;(with_reducible refine HC.mono ?_);rintro e w2 ⟨rfl,hx2⟩;have HX2:=hid hx2;clear hx2)
 go_ret
 exact ⟨rfl,HB0.out.ext.trans HX2.out⟩
def twiceUp (n : List UInt8) (l : List ByteArray) : Nat → Bool
 | 0=>false
 | k + 1=>twiceUp n l k || hasZ n (bys (l[k]?.getD ByteArray.empty)) (l.take k)
def twiceV (n : List UInt8) (l : List ByteArray) : Bool:=twiceUp n l l.length
theorem twice_up {n : List UInt8} {l : List ByteArray} {k : Nat} : ∀ m,k ≤ m → twiceUp n l k = true → twiceUp n l m = true
 | 0,h,e=>by (obtain rfl : k = 0:=(by omega));exact e
 | m + 1,h,e=>by
  rcases Nat.lt_or_ge m k with h1 | h1
  ·obtain rfl : k = m + 1:=by omega
   exact e
  ·rw [twiceUp,twice_up m h1 e];rfl
theorem twice_next {n : List UInt8} {l : List ByteArray} {k : Nat} {x : ByteArray} {b : Bool} (h : twiceUp n l k = false) (hx : l[k]? = some x) (hb : hasZ n (bys x) (l.take k) = b) : twiceUp n l (k + 1) = b:=by
 rw [twiceUp,h,hx]
 exact hb
theorem twice_any {S : Nat → Prop} {A : Option Addr} {n c : Nat} {l : List ByteArray} {w : World} (h : Row Elem.str S w A n c l) (nm : ByteArray) (hG : Gu w) (hn : nm.size ≤ 4000000) :
 Calls Tryz.prog 117 #[.string nm,.slice A n c] w fun e w'=>e = .returned (.bool (twiceV (bys nm) l)) ∧ Ext w w':=by
 have HG:=hid hG
 have HR:=hid h
 have hl:=hid h.len
 have hcap:=h.cap
 have hnl : n ≤ 9223372036854775807:=by have:=h.cap;have:=h.most;simp only [maxLen] at this;omega
 have HN:=hid hn
 clear hG h hn
 go_enter Tryz.func117,Tryz.ntmps117
 go_wp2
 go_loopw [9] (fun i wr=>∃ j : Nat,j ≤ n ∧ i = .int .i64 j ∧ Hid (twiceUp (bys nm) l j = false) ∧ Hid (Ext w wr)) (fun i _=>n - (intOf i).toNat)
 case atStart=>exact ⟨0,by omega,rfl,rfl,Ext.refl w⟩
 case round=>
  obtain ⟨j,hj,rfl,Htk,hx⟩:=hrel
  by_cases hlt : j < n
  ·have hrw:=HR.out.ext hx.out
   have hhd:=hid (hrw.head (k:=j) (by omega))
   obtain ⟨b1,o1,rfl,c1⟩:=hrw.str_cell (by omega)
   have e1:=c1 j hlt
   have hs1:=sslice_h (some ⟨b1,o1,none⟩) n c j (by omega)
   clear c1 hrw
   have g1 : l[j]? = some (l[j]?.getD ByteArray.empty):=by have:=hl.out;rw [List.getElem?_eq_getElem (by omega)];simp
   have Hg:=hid g1
   clear g1
   generalize l[j]?.getD ByteArray.empty = x1 at *
   have jj : (j : Int) < (n : Int):=by omega
   have jc : (j : Int) ≤ (c : Int):=by omega
   have j0 : (0 : Int) ≤ (j : Int):=by omega
   cases hb : hasZ (bys nm) (bys x1) (l.take j)
   ·have HF : ∀ w',Ext wr w' → Calls Tryz.prog 146 #[.string nm,.slice (cutA (some ⟨b1,o1,none⟩) 0 c 1) j c,.string x1] w' fun e w''=>∃ r : Int,e = .returned (.int .i64 r) ∧ decide (0 ≤ r) = false ∧ Ext w' w'':=fun w' hx'=>(findZ_any (hhd.out.ext hx') nm x1 (HG.out.ext (hx.out.trans hx')) HN.out).mono fun e w2 ⟨r,h1,h2,h3⟩=>⟨r,h1,by rw [h2.has,like_has,hb],h3⟩
    have HT:=hid (twice_next Htk.out Hg.out hb)
    clear hb
    go_wp2_with (go_at_call 146;(with_reducible refine (HF _ (Ext.refl _)).mono ?_);rintro e w1 ⟨r,rfl,hr,hx1⟩;have HX1:=hid (hx.out.trans hx1);clear hx1)
    exact ⟨⟨j + 1,by omega,by go_num,HT.out,HX1.out⟩,by simp [intOf];omega⟩
   ·have HF : ∀ w',Ext wr w' → Calls Tryz.prog 146 #[.string nm,.slice (cutA (some ⟨b1,o1,none⟩) 0 c 1) j c,.string x1] w' fun e w''=>∃ r : Int,e = .returned (.int .i64 r) ∧ decide (0 ≤ r) = true ∧ Ext w' w'':=fun w' hx'=>(findZ_any (hhd.out.ext hx') nm x1 (HG.out.ext (hx.out.trans hx')) HN.out).mono fun e w2 ⟨r,h1,h2,h3⟩=>⟨r,h1,by rw [h2.has,like_has,hb],h3⟩
    have HT : Hid (twiceV (bys nm) l = true):=twice_up l.length (by have:=hl.out;omega) (twice_next Htk.out Hg.out hb)
    clear hb
    go_wp2_with (go_at_call 146;(with_reducible refine (HF _ (Ext.refl _)).mono ?_);rintro e w1 ⟨r,rfl,hr,hx1⟩;have HX1:=hid (hx.out.trans hx1);clear hx1)
    go_ret
    exact ⟨by rw [HT.out];rfl,HX1.out⟩
  ·obtain rfl : j = n:=by omega
   have HE : Hid (twiceV (bys nm) l = false):=by show _ = _;unfold twiceV;rw [← hl.out];exact Htk.out
   go_wp2
   go_ret
   exact ⟨by rw [HE.out];rfl,hx.out⟩
end Go.Proofs.YtlbneoilhapkmaaGreatDoor
