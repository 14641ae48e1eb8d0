/- Lemmas of the walk that the last text of this claim joins. -/
import Derived.Test.YtejdpadhemeldaaGreatDoorZ35
set_option maxHeartbeats 40000000
set_option linter.unusedVariables false
set_option linter.unusedSimpArgs false
namespace Go.Proofs.YtejdpadhemeldaaGreatDoor
open Go.RowKit
set_option maxRecDepth 100000
theorem valZ_E {n : List UInt8} (h4 : (typeB n).2 ≠ 4) (h5 : (typeB n).2 ≠ 5) (v : List UInt8) : valZ n v = normE n v:=by
 unfold valZ normZ
 rw [if_pos h5,if_neg h4]
theorem hasZ_E {n : List UInt8} (h4 : (typeB n).2 ≠ 4) (h5 : (typeB n).2 ≠ 5) (v : List UInt8) (l : List ByteArray) : hasZ n v l = hasE n v l:=by
 unfold hasZ hasE likeZ likeB
 rw [valZ_E h4 h5 v]
 congr 2
 funext x
 rw [valZ_E h4 h5 (bys x)]
theorem parse_of {s : List UInt8} (hc : codeR (partsB s) = 0) (hs : s ≠ []) : ∃ p t,parseS s = .ok (p :: t):=by
 have h:=partsB_parse s
 cases hp : parseS s with
 | error e=>rw [hp] at h;rw [h] at hc;cases e <;> cases hc
 | ok l=>
  rw [hp] at h
  simp only at h
  by_cases h4 : 1000 < (joinC (l.map textP)).length
  ·rw [if_pos h4] at h;rw [h] at hc;cases hc
  ·rw [if_neg h4] at h
   have:=parts_ne h hs
   cases l with
   | nil=>exact absurd rfl this
   | cons p t=>exact ⟨p,t,rfl⟩
theorem self_parts {s : List UInt8} (h : selfN s = true) : codeR (partsB s) = 0 ∧ normalS s = s ∧ s ≠ []:=by
 unfold selfN at h
 simp only [Bool.and_eq_true,decide_eq_true_eq,Bool.not_eq_true',decide_eq_false_iff_not] at h
 exact ⟨h.1.1,h.1.2,h.2⟩
theorem named_same {nm : List UInt8} {l : List Att} (h : selfN nm = true) : namedZ nm l = namedE nm l:=by
 obtain ⟨h1,h2,h3⟩:=self_parts h
 obtain ⟨p,t,hp⟩:=parse_of h1 h3
 have hok:=pairs_ok nm
 unfold namedZ namedE
 have hps : pairsS nm = p:=by unfold pairsS;rw [hp];rfl
 rw [hps] at hok ⊢
 rw [hp]
 simp only
 rw [Bool.eq_iff_iff,List.all_eq_true,Bool.not_eq_true',List.any_eq_false]
 constructor
 ·intro h a ha
  rw [← hasZ_E (hok a ha).2.1 (hok a ha).2.2,h a ha]
  simp
 ·intro h a ha
  have:=h a ha
  rw [hasZ_E (hok a ha).2.1 (hok a ha).2.2]
  simpa using this
theorem formed_R (nm : List UInt8) (l : List Att) : formedE nm l = (looseE nm l && decide (0 < (valsE objB l).length) && namedZ nm l):=by
 unfold formedE
 cases h : looseE nm l with
 | false=>rfl
 | true=>
  have hs : selfN nm = true:=by
   unfold looseE at h
   simp only [Bool.and_eq_true] at h
   exact h.1.1
  rw [named_same hs]
theorem rformed_ent {S : Nat → Prop} {A : Option Addr} {n c : Nat} {l : List Att} {w : World} (h : Row Elem.att S w A n c l) (nm : ByteArray) (hG : Gu w) (ht : ∀ a ∈ l,a.type.size ≤ 4000000) (hv : ∀ a ∈ l,a.vals.length ≤ 8796093022208) :
 Calls Tryz.prog 32 #[.agg #[.string nm,.slice A n c]] w fun e w'=>e = .returned (.bool (formedE (bys nm) l)) ∧ Ext w w':=by
 have HB:=hid (Bx.make (Ext.refl w) #[.string nm,.slice A n c] 31)
 have HLO : ∀ w',Ext w w' → Calls Tryz.prog 56 #[.agg #[.string nm,.slice A n c]] w' fun e w''=>e = .returned (.bool (looseE (bys nm) l)) ∧ Ext w' w'':=fun w' hx=>loose_any (h.ext hx) nm (hG.ext hx) ht
 have HVL : ∀ w',Ext w w' → Calls Tryz.prog 57 #[.agg #[.string nm,.slice A n c],.string ⟨#[111,98,106,101,99,116,67,108,97,115,115]⟩] w' (OwnVals w' objB l):=fun w' hx=>rvalues_any (h.ext hx) ⟨#[111,98,106,101,99,116,67,108,97,115,115]⟩ nm (by decide) hv
 have HND : ∀ w',Ext w w' → Calls Tryz.prog 58 #[.agg #[.string nm,.slice A n c]] w' fun e w''=>e = .returned (.bool (namedZ (bys nm) l)) ∧ Ext w' w'':=fun w' hx=>rnamed_any (h.ext hx) nm (hG.gl.ext hx) hv
 have HD:=hid (formed_R (bys nm) l)
 unfold OwnVals at HVL
 clear h hG ht hv
 generalize formedE (bys nm) l = F at *
 generalize looseE (bys nm) l = L at *
 generalize namedZ (bys nm) l = nd at *
 obtain ⟨vl,hvl⟩ : ∃ vl,vl = (valsE objB l).length:=⟨_,rfl⟩
 rw [← hvl] at HD
 have HVN : Hid (∀ (m : Nat),m = (valsE objB l).length → m = vl):=fun m h=>by rw [h,hvl]
 clear hvl
 cases L
 ·have HF : Hid (F = false):=by show _ = _;rw [HD.out];rfl
  go_enter Tryz.func32,Tryz.ntmps32
  go_wp2_with (go_at_call 56;(with_reducible refine (HLO _ HB.out.ext).mono ?_);rintro e w1 ⟨rfl,hx1⟩;have HB1:=hid (HB.out.later hx1);have c0:=HB1.out.cell (i:=0) rfl;have c1:=HB1.out.cell (i:=1) rfl;clear hx1)
  go_ret
  exact ⟨by rw [HF.out];rfl,HB1.out.ext⟩
 ·by_cases h0 : 0 < vl
  ·have HF : Hid (F = nd):=by show _ = _;rw [HD.out,decide_eq_true h0];rfl
   go_enter Tryz.func32,Tryz.ntmps32
   go_wp2_with (first
    | (go_at_call 56;(with_reducible refine (HLO _ HB.out.ext).mono ?_);rintro e w1 ⟨rfl,hx1⟩;have HB1:=hid (HB.out.later hx1);have c0:=HB1.out.cell (i:=0) rfl;have c1:=HB1.out.cell (i:=1) rfl;clear hx1)
    | (go_at_call 57;(with_reducible refine (HVL _ HB1.out.ext).mono ?_);rintro e w2 ⟨v2,rfl,hg2⟩;obtain ⟨A2,c2,rfl,hr2⟩:=hg2.row;have HB2:=hid (HB1.out.later hg2.ext);have y1 : 0 < (((valsE objB l).length : Nat) : Int):=(by have:=HVN.out _ rfl;omega);have c0:=HB2.out.cell (i:=0) rfl;have c1:=HB2.out.cell (i:=1) rfl;clear hr2 hg2)
    | (go_at_call 58;(with_reducible refine (HND _ HB2.out.ext).mono ?_);rintro e w3 ⟨rfl,hx3⟩;have HX3:=hid (HB2.out.ext.trans hx3);clear hx3))
   go_ret
   exact ⟨by rw [HF.out];rfl,HX3.out⟩
  ·have HF : Hid (F = false):=by show _ = _;rw [HD.out,decide_eq_false h0];rfl
   go_enter Tryz.func32,Tryz.ntmps32
   go_wp2_with (first
    | (go_at_call 56;(with_reducible refine (HLO _ HB.out.ext).mono ?_);rintro e w1 ⟨rfl,hx1⟩;have HB1:=hid (HB.out.later hx1);have c0:=HB1.out.cell (i:=0) rfl;have c1:=HB1.out.cell (i:=1) rfl;clear hx1)
    | (go_at_call 57;(with_reducible refine (HVL _ HB1.out.ext).mono ?_);rintro e w2 ⟨v2,rfl,hg2⟩;obtain ⟨A2,c2,rfl,hr2⟩:=hg2.row;have HB2:=hid (HB1.out.later hg2.ext);have y1 : (valsE objB l).length = 0:=(by have:=HVN.out _ rfl;omega);rw [y1] at hr2;rw [y1];have c0:=HB2.out.cell (i:=0) rfl;have c1:=HB2.out.cell (i:=1) rfl;clear hr2 hg2))
   go_ret
   exact ⟨by rw [HF.out];rfl,HB2.out.ext⟩
def targB : List UInt8:=[97,108,105,97,115,101,100,79,98,106,101,99,116,78,97,109,101]
def aliB : List UInt8:=[97,108,105,97,115]
def aliasE (l : List Att) : List UInt8 × Bool:=
 match valsE targB l with
 | []=>([],false)
 | v :: _=>if hasZ objB aliB (valsE objB l) then ((valZ targB (bys v)).1,(valZ targB (bys v)).2 == 0) else ([],false)
def AliasSays (w : World) (l : List Att) (e : Ending) (w' : World) : Prop:=e = .returned (.tuple #[.string (str (aliasE l).1),.bool (aliasE l).2]) ∧ Ext w w'
theorem alias_any {S : Nat → Prop} {A : Option Addr} {n c : Nat} {l : List Att} {w : World} (h : Row Elem.att S w A n c l) (nm : ByteArray) (hG : Gu w) (hv : ∀ a ∈ l,a.vals.length ≤ 8796093022208) :
 Calls Tryz.prog 52 #[.agg #[.string nm,.slice A n c]] w (AliasSays w l):=by
 have HG:=hid hG
 have HB:=hid (Bx.make (Ext.refl w) #[.string nm,.slice A n c] 31)
 have HVL : ∀ w',Ext w w' → Calls Tryz.prog 47 #[.agg #[.string nm,.slice A n c],.string ⟨#[97,108,105,97,115,101,100,79,98,106,101,99,116,78,97,109,101]⟩] w' (ValsSays w' targB l):=fun w' hx=>values_any (h.ext hx) ⟨#[97,108,105,97,115,101,100,79,98,106,101,99,116,78,97,109,101]⟩ nm (by decide) hv
 have HH : ∀ w',Ext w w' → Calls Tryz.prog 91 #[.agg #[.string nm,.slice A n c],.string ⟨#[111,98,106,101,99,116,67,108,97,115,115]⟩,.string ⟨#[97,108,105,97,115]⟩] w' fun e w''=>e = .returned (.bool (hasZ objB aliB (valsE objB l))) ∧ Ext w' w'':=fun w' hx=>hasZP_any (h.ext hx) ⟨#[111,98,106,101,99,116,67,108,97,115,115]⟩ nm ⟨#[97,108,105,97,115]⟩ (hG.ext hx) (by decide) hv
 have HV : ∀ (x : ByteArray) w',Gu w' → Calls Tryz.prog 48 #[.string ⟨#[97,108,105,97,115,101,100,79,98,106,101,99,116,78,97,109,101]⟩,.string x] w' (ValZSays w' targB (bys x)):=fun x w' hG=>dnvalueZ_any ⟨#[97,108,105,97,115,101,100,79,98,106,101,99,116,78,97,109,101]⟩ x w' hG (by decide)
 have HD : Hid (aliasE l = match valsE targB l with | []=>([],false) | v :: _=>if hasZ objB aliB (valsE objB l) then ((valZ targB (bys v)).1,(valZ targB (bys v)).2 == 0) else ([],false)):=rfl
 have HCD : Hid (AliasSays w l = fun e w'=>e = .returned (.tuple #[.string (str (aliasE l).1),.bool (aliasE l).2]) ∧ Ext w w'):=rfl
 unfold ValsSays at HVL
 unfold ValZSays at HV
 clear h hG hv
 generalize aliasE l = r at *
 obtain ⟨hb,hhb⟩ : ∃ hb,hb = hasZ objB aliB (valsE objB l):=⟨_,rfl⟩
 rw [← hhb] at HH HD
 clear hhb
 cases hq : valsE targB l with
 | nil=>
  have HQ:=hid hq
  have HE : Hid (r = ([],false)):=by show _ = _;rw [HD.out,hq]
  clear hq HD
  cases hb
  all_goals
   go_enter Tryz.func52,Tryz.ntmps52
   go_wp2_with (first
    | (go_at_call 47;(with_reducible refine (HVL _ HB.out.ext).mono ?_);rintro e w1 ⟨A1,n1,c1,rfl,hr1,hx1⟩;obtain rfl : n1 = 0:=(by have:=hr1.len;rw [HQ.out] at this;simpa using this);have HB1:=hid (HB.out.later hx1);have c0:=HB1.out.cell (i:=0) rfl;have cc1:=HB1.out.cell (i:=1) rfl;clear hr1 hx1)
    | (go_at_call 91;(with_reducible refine (HH _ HB1.out.ext).mono ?_);rintro e w2 ⟨rfl,hx2⟩;have HB2:=hid (HB1.out.later hx2);clear hx2))
   go_ret2
   rw [HCD.out,HE.out]
   exact ⟨rfl,HB1.out.ext⟩
 | cons x q=>
  have HQ:=hid hq
  rw [hq] at HD
  simp only at HD
  clear hq
  have HV1:=HV x
  obtain ⟨vz,hvz⟩ : ∃ vz,vz = valZ targB (bys x):=⟨_,rfl⟩
  rw [← hvz] at HV1 HD
  clear HV hvz
  obtain ⟨z1,z2⟩:=vz
  simp only at HV1 HD
  cases hb
  ·have HE : Hid (r = ([],false)):=by show _ = _;rw [HD.out];rfl
   clear HD
   go_enter Tryz.func52,Tryz.ntmps52
   go_wp2_with (first
    | (go_at_call 47;(with_reducible refine (HVL _ HB.out.ext).mono ?_);rintro e w1 ⟨A1,n1,c1,rfl,hr1,hx1⟩;have hl1 : n1 = q.length + 1:=(by have:=hr1.len;rw [HQ.out] at this;simpa using this);have tl1 : ((n1 : Int) == 0) = false:=(by rw [beq_eq_false_iff_ne];omega);have tl3 : 0 < n1:=(by omega);have tl4 : (0 : Int) < (n1 : Int):=(by omega);have HR1:=hid hr1;clear hl1;have HB1:=hid (HB.out.later hx1);have c0:=HB1.out.cell (i:=0) rfl;have cc1:=HB1.out.cell (i:=1) rfl;clear hr1 hx1)
    | (go_at_call 91;(with_reducible refine (HH _ HB1.out.ext).mono ?_);rintro e w2 ⟨rfl,hx2⟩;have HB2:=hid (HB1.out.later hx2);clear hx2))
   go_ret2
   rw [HCD.out,HE.out]
   exact ⟨rfl,HB2.out.ext⟩
  ·have HE : Hid (r = (z1,z2 == 0)):=by show _ = _;rw [HD.out];rfl
   clear HD
   go_enter Tryz.func52,Tryz.ntmps52
   go_wp2_with (first
    | (go_at_call 47;(with_reducible refine (HVL _ HB.out.ext).mono ?_);rintro e w1 ⟨A1,n1,c1,rfl,hr1,hx1⟩;have hl1 : n1 = q.length + 1:=(by have:=hr1.len;rw [HQ.out] at this;simpa using this);have tl1 : ((n1 : Int) == 0) = false:=(by rw [beq_eq_false_iff_ne];omega);have tl3 : 0 < n1:=(by omega);have tl4 : (0 : Int) < (n1 : Int):=(by omega);have HR1:=hid hr1;clear hl1;have HB1:=hid (HB.out.later hx1);have c0:=HB1.out.cell (i:=0) rfl;have cc1:=HB1.out.cell (i:=1) rfl;clear hr1 hx1)
    | (go_at_call 91;(with_reducible refine (HH _ HB1.out.ext).mono ?_);rintro e w2 ⟨rfl,hx2⟩;have HB2:=hid (HB1.out.later hx2);have HX2:=hid hx2;obtain ⟨b1,o1,rfl,k1⟩:=(HR1.out.ext HX2.out).str_cell tl3;have e1:=k1 0 (by omega);simp only [HQ.out,List.getElem?_cons_zero,Option.getD_some,Nat.add_zero] at e1;clear k1;clear hx2)
    | (go_at_call 48;(with_reducible refine (HV1 _ (HG.out.ext HB2.out.ext)).mono ?_);rintro e w3 ⟨rfl,hx3⟩;have HX3:=hid (HB2.out.ext.trans hx3);clear hx3))
   go_ret2
   rw [HCD.out,HE.out]
   exact ⟨rfl,HX3.out⟩
theorem ralias_any {S : Nat → Prop} {A : Option Addr} {n c : Nat} {l : List Att} {w : World} (h : Row Elem.att S w A n c l) (nm : ByteArray) (hG : Gu w) (hv : ∀ a ∈ l,a.vals.length ≤ 8796093022208) :
 Calls Tryz.prog 33 #[.agg #[.string nm,.slice A n c]] w (AliasSays w l):=by
 have HG:=hid hG
 have HB:=hid (Bx.make (Ext.refl w) #[.string nm,.slice A n c] 31)
 have HVL : ∀ w',Ext w w' → Calls Tryz.prog 57 #[.agg #[.string nm,.slice A n c],.string ⟨#[97,108,105,97,115,101,100,79,98,106,101,99,116,78,97,109,101]⟩] w' (OwnVals w' targB l):=fun w' hx=>rvalues_any (h.ext hx) ⟨#[97,108,105,97,115,101,100,79,98,106,101,99,116,78,97,109,101]⟩ nm (by decide) hv
 have HH : ∀ w',Ext w w' → Calls Tryz.prog 59 #[.agg #[.string nm,.slice A n c],.string ⟨#[111,98,106,101,99,116,67,108,97,115,115]⟩,.string ⟨#[97,108,105,97,115]⟩] w' fun e w''=>e = .returned (.bool (hasZ objB aliB (valsE objB l))) ∧ Ext w' w'':=fun w' hx=>rhas_any (h.ext hx) ⟨#[111,98,106,101,99,116,67,108,97,115,115]⟩ nm ⟨#[97,108,105,97,115]⟩ (hG.gl.ext hx) (by decide) hv
 have HV : ∀ (x : ByteArray) w',Gu w' → Calls Tryz.prog 60 #[.string ⟨#[97,108,105,97,115,101,100,79,98,106,101,99,116,78,97,109,101]⟩,.string x] w' (ValZSays w' targB (bys x)):=fun x w' hG=>rvalueZ_any ⟨#[97,108,105,97,115,101,100,79,98,106,101,99,116,78,97,109,101]⟩ x w' hG.gl (by decide)
 have HD : Hid (aliasE l = match valsE targB l with | []=>([],false) | v :: _=>if hasZ objB aliB (valsE objB l) then ((valZ targB (bys v)).1,(valZ targB (bys v)).2 == 0) else ([],false)):=rfl
 have HCD : Hid (AliasSays w l = fun e w'=>e = .returned (.tuple #[.string (str (aliasE l).1),.bool (aliasE l).2]) ∧ Ext w w'):=rfl
 unfold OwnVals at HVL
 unfold ValZSays at HV
 clear h hG hv
 generalize aliasE l = r at *
 obtain ⟨hb,hhb⟩ : ∃ hb,hb = hasZ objB aliB (valsE objB l):=⟨_,rfl⟩
 rw [← hhb] at HH HD
 clear hhb
 cases hq : valsE targB l with
 | nil=>
  have HQ:=hid hq
  have HE : Hid (r = ([],false)):=by show _ = _;rw [HD.out,hq]
  clear hq HD
  cases hb
  all_goals
   go_enter Tryz.func33,Tryz.ntmps33
   go_wp2_with (first
    | (go_at_call 57;(with_reducible refine (HVL _ HB.out.ext).mono ?_);rintro e w1 ⟨v1,rfl,hg1⟩;obtain ⟨A1,c1,rfl,hr1⟩:=hg1.row;have hx1:=hg1.ext;have y0 : (valsE targB l).length = 0:=(by rw [HQ.out];rfl);rw [y0];have HB1:=hid (HB.out.later hx1);have c0:=HB1.out.cell (i:=0) rfl;have cc1:=HB1.out.cell (i:=1) rfl;clear hr1 hx1)
    | (go_at_call 59;(with_reducible refine (HH _ HB1.out.ext).mono ?_);rintro e w2 ⟨rfl,hx2⟩;have HB2:=hid (HB1.out.later hx2);clear hx2))
   go_ret2
   rw [HCD.out,HE.out]
   first | exact ⟨rfl,HB2.out.ext⟩ | exact ⟨rfl,HB1.out.ext⟩
 | cons x q=>
  have HQ:=hid hq
  rw [hq] at HD
  simp only at HD
  clear hq
  have HV1:=HV x
  obtain ⟨vz,hvz⟩ : ∃ vz,vz = valZ targB (bys x):=⟨_,rfl⟩
  rw [← hvz] at HV1 HD
  clear HV hvz
  obtain ⟨z1,z2⟩:=vz
  simp only at HV1 HD
  cases hb
  ·have HE : Hid (r = ([],false)):=by show _ = _;rw [HD.out];rfl
   clear HD
   go_enter Tryz.func33,Tryz.ntmps33
   go_wp2_with (first
    | (go_at_call 57;(with_reducible refine (HVL _ HB.out.ext).mono ?_);rintro e w1 ⟨v1,rfl,hg1⟩;obtain ⟨A1,c1,rfl,hr1⟩:=hg1.row;have hx1:=hg1.ext;obtain ⟨n1,hn1⟩ : ∃ n1,n1 = (valsE targB l).length:=⟨_,rfl⟩;have hl1 : n1 = q.length + 1:=(by rw [hn1,HQ.out];rfl);rw [← hn1] at hr1 ⊢;have tl1 : ((n1 : Int) == 0) = false:=(by rw [beq_eq_false_iff_ne];omega);have tl3 : 0 < n1:=(by omega);have tl4 : (0 : Int) < (n1 : Int):=(by omega);have HR1:=hid hr1;clear hl1 hn1;have HB1:=hid (HB.out.later hx1);have c0:=HB1.out.cell (i:=0) rfl;have cc1:=HB1.out.cell (i:=1) rfl;clear hr1 hx1)
    | (go_at_call 59;(with_reducible refine (HH _ HB1.out.ext).mono ?_);rintro e w2 ⟨rfl,hx2⟩;have HB2:=hid (HB1.out.later hx2);clear hx2))
   go_ret2
   rw [HCD.out,HE.out]
   exact ⟨rfl,HB2.out.ext⟩
  ·have HE : Hid (r = (z1,z2 == 0)):=by show _ = _;rw [HD.out];rfl
   clear HD
   go_enter Tryz.func33,Tryz.ntmps33
   go_wp2_with (first
    | (go_at_call 57;(with_reducible refine (HVL _ HB.out.ext).mono ?_);rintro e w1 ⟨v1,rfl,hg1⟩;obtain ⟨A1,c1,rfl,hr1⟩:=hg1.row;have hx1:=hg1.ext;obtain ⟨n1,hn1⟩ : ∃ n1,n1 = (valsE targB l).length:=⟨_,rfl⟩;have hl1 : n1 = q.length + 1:=(by rw [hn1,HQ.out];rfl);rw [← hn1] at hr1 ⊢;have tl1 : ((n1 : Int) == 0) = false:=(by rw [beq_eq_false_iff_ne];omega);have tl3 : 0 < n1:=(by omega);have tl4 : (0 : Int) < (n1 : Int):=(by omega);have HR1:=hid hr1;clear hl1 hn1;have HB1:=hid (HB.out.later hx1);have c0:=HB1.out.cell (i:=0) rfl;have cc1:=HB1.out.cell (i:=1) rfl;clear hr1 hx1)
    | (go_at_call 59;(with_reducible refine (HH _ HB1.out.ext).mono ?_);rintro e w2 ⟨rfl,hx2⟩;have HB2:=hid (HB1.out.later hx2);have HX2:=hid hx2;obtain ⟨b1,o1,rfl,k1⟩:=(HR1.out.ext HX2.out).str_cell tl3;have e1:=k1 0 (by omega);simp only [HQ.out,List.getElem?_cons_zero,Option.getD_some,Nat.add_zero] at e1;clear k1;clear hx2)
    | (go_at_call 60;(with_reducible refine (HV1 _ (HG.out.ext HB2.out.ext)).mono ?_);rintro e w3 ⟨rfl,hx3⟩;have HX3:=hid (HB2.out.ext.trans hx3);clear hx3))
   go_ret2
   rw [HCD.out,HE.out]
   exact ⟨rfl,HX3.out⟩
end Go.Proofs.YtejdpadhemeldaaGreatDoor
