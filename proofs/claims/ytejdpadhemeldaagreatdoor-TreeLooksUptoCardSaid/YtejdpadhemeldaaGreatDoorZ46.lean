/- Lemmas of the walk that the last text of this claim joins. -/
import Derived.Test.YtejdpadhemeldaaGreatDoorZ45
import Derived.Test.YtejdpadhemeldaaGreatDoorZ33
import Derived.Test.YtejdpadhemeldaaGreatDoorZ11
set_option maxHeartbeats 40000000
set_option linter.unusedVariables false
set_option linter.unusedSimpArgs false
namespace Go.Proofs.YtejdpadhemeldaaGreatDoor
open Go.RowKit
open Go.Maps Go.MapKept Go.WideShapes Go.ChangeShapes Go.ChangeMaps
set_option maxRecDepth 100000
theorem entOf_perm {l l' : List Ent} (ha : Apart nmE l) (hp : l'.Perm l) (p : ByteArray) : entOf l' p = entOf l p:=by
 have hm : ∀ {k : List Ent} {x : Ent},entOf k p = some x → x ∈ k ∧ x.name = p:=fun h=>⟨List.mem_of_find?_eq_some h,by have:=List.find?_some h;simpa using this⟩
 cases h1 : entOf l p with
 | none=>
  cases h2 : entOf l' p with
  | none=>rfl
  | some y=>
   obtain ⟨a,b⟩:=hm h2
   unfold entOf at h1
   rw [List.find?_eq_none] at h1
   exact absurd (by simpa using b) (h1 y (hp.mem_iff.1 a))
 | some x=>
  obtain ⟨a,b⟩:=hm h1
  cases h2 : entOf l' p with
  | none=>
   unfold entOf at h2
   rw [List.find?_eq_none] at h2
   exact absurd (by simpa using b) (h2 x (hp.mem_iff.2 a))
  | some y=>
   obtain ⟨c,d⟩:=hm h2
   rw [ha.one (hp.mem_iff.1 c) a (by show bys _ = bys _;rw [d,b])]
theorem getO_sorted {l : List Ent} (hN : Named l) (s : List UInt8) : getO (sortN nmE l) s = getO l s:=by
 unfold getO
 rw [entOf_perm hN.apart (sortN_ok hN.self hN.apart).1]
def BeginOk (w : World) (l : List Ent) (e : Ending) (w' : World) : Prop:=∃ g B es clock gw,e = .returned (.tuple #[.pointer (some ⟨g,0,none⟩),.pointer (some ⟨gw,0,none⟩)]) ∧ TreeAt (fun b=>b ≠ B) w' g B es clock l ∧ RTree (fun _=>True) w' gw (sortN nmE l) ∧ Ext w w'
theorem tof_ok {S : Nat → Prop} {A : Option Addr} {n c : Nat} {l : List Ent} {w : World} (h : Row Elem.ent S w A n c l) (hG : Gu w) (hf : ∀ e ∈ l,EntFits e) (hok : OkOf l) :
 Calls Tryz.prog 16 #[.slice A n c] w fun e w''=>∃ g B es clock,e = .returned (.tuple #[.pointer (some ⟨g,0,none⟩),.int .i64 0]) ∧ TreeAt (fun b=>b ≠ B) w'' g B es clock l ∧ Ext w w'':=
 (treeof_any h hG hf).mono fun e w'' h=>by
   rcases h with ⟨-,g,B,es,clock,h1,h2,-,-,h3⟩ | ⟨h1,-⟩
   ·exact ⟨g,B,es,clock,h1,h2,h3⟩
   ·exact absurd hok h1
theorem rof_ok {S : Nat → Prop} {A : Option Addr} {n c : Nat} {l : List Ent} {w : World} (h : Row Elem.ent S w A n c l) (hG : Gu w) (hf : ∀ e ∈ l,EntFits e) (hok : OkOf l) :
 Calls Tryz.prog 17 #[.slice A n c] w fun e w''=>∃ g,e = .returned (.tuple #[.pointer (some ⟨g,0,none⟩),.int .i64 0]) ∧ RTree (fun _=>True) w'' g (sortN nmE l) ∧ Ext w w'':=
 (rof_any h hG hf).mono fun e w'' h=>by
   rcases h with ⟨-,g,A',n',c',h1,h2,-,h3,h4⟩ | ⟨h1,-⟩
   ·exact ⟨g,h1,⟨A',n',c',h2,h3.mono fun _ _ _=>trivial⟩,h4⟩
   ·exact absurd hok h1
theorem tof_no {S : Nat → Prop} {A : Option Addr} {n c : Nat} {l : List Ent} {w : World} (h : Row Elem.ent S w A n c l) (hG : Gu w) (hf : ∀ e ∈ l,EntFits e) (hok : ¬ OkOf l) :
 Calls Tryz.prog 16 #[.slice A n c] w fun e w''=>e = .returned (.tuple #[.pointer none,.int .i64 2]) ∧ Ext w w'':=
 (treeof_any h hG hf).mono fun e w'' h=>by
   rcases h with ⟨h1,-⟩ | ⟨-,h1,h2⟩
   ·exact absurd h1 hok
   ·exact ⟨h1,h2⟩
theorem rof_no {S : Nat → Prop} {A : Option Addr} {n c : Nat} {l : List Ent} {w : World} (h : Row Elem.ent S w A n c l) (hG : Gu w) (hf : ∀ e ∈ l,EntFits e) (hok : ¬ OkOf l) :
 Calls Tryz.prog 17 #[.slice A n c] w fun e w''=>e = .returned (.tuple #[.pointer none,.int .i64 2]) ∧ Ext w w'':=
 (rof_any h hG hf).mono fun e w'' h=>by
   rcases h with ⟨h1,-⟩ | ⟨-,h1,h2⟩
   ·exact absurd h1 hok
   ·exact ⟨h1,h2⟩
theorem begin_ok {S : Nat → Prop} {A : Option Addr} {n c : Nat} {l : List Ent} {w : World} (h : Row Elem.ent S w A n c l) (hG : Gu w) (hf : ∀ e ∈ l,EntFits e) (hok : OkOf l) :
 Calls Tryz.prog 6 #[.slice A n c] w (BeginOk w l):=by
 have HOF : ∀ w',Ext w w' → Calls Tryz.prog 16 #[.slice A n c] w' fun e w''=>∃ g B es clock,e = .returned (.tuple #[.pointer (some ⟨g,0,none⟩),.int .i64 0]) ∧ TreeAt (fun b=>b ≠ B) w'' g B es clock l ∧ Ext w' w'':=fun w' hx=>tof_ok (h.ext hx) (hG.ext hx) hf hok
 have HRO : ∀ w',Ext w w' → Calls Tryz.prog 17 #[.slice A n c] w' fun e w''=>∃ g,e = .returned (.tuple #[.pointer (some ⟨g,0,none⟩),.int .i64 0]) ∧ RTree (fun _=>True) w'' g (sortN nmE l) ∧ Ext w' w'':=fun w' hx=>rof_ok (h.ext hx) (hG.ext hx) hf hok
 clear h hG hf hok
 go_enter Tryz.func6,Tryz.ntmps6
 go_wp2_with (first
  | (go_at_call 16;(with_reducible refine (HOF _ (Ext.refl _)).mono ?_);rintro e w3 ⟨g,B,es,clock,rfl,ht3,hx3⟩;have HT3:=hid ht3;have HX3:=hid hx3;clear ht3 hx3)
  | (go_at_call 17;(with_reducible refine (HRO _ HX3.out).mono ?_);rintro e w4 ⟨gw,rfl,hr4,hx4⟩;have HR4:=hid hr4;have HT4:=hid (HT3.out.ext hx4);have HX4:=hid (HX3.out.trans hx4);clear hr4 hx4))
 go_ret2
 exact ⟨g,B,es,clock,gw,rfl,HT4.out,HR4.out,HX4.out⟩
theorem begin_no {S : Nat → Prop} {A : Option Addr} {n c : Nat} {l : List Ent} {w : World} (h : Row Elem.ent S w A n c l) (hG : Gu w) (hf : ∀ e ∈ l,EntFits e) (hok : ¬ OkOf l) :
 Calls Tryz.prog 6 #[.slice A n c] w fun e w'=>e = .returned (.tuple #[.pointer none,.pointer none]) ∧ Ext w w':=by
 have HOF : ∀ w',Ext w w' → Calls Tryz.prog 16 #[.slice A n c] w' fun e w''=>e = .returned (.tuple #[.pointer none,.int .i64 2]) ∧ Ext w' w'':=fun w' hx=>tof_no (h.ext hx) (hG.ext hx) hf hok
 have HRO : ∀ w',Ext w w' → Calls Tryz.prog 17 #[.slice A n c] w' fun e w''=>e = .returned (.tuple #[.pointer none,.int .i64 2]) ∧ Ext w' w'':=fun w' hx=>rof_no (h.ext hx) (hG.ext hx) hf hok
 clear h hG hf hok
 go_enter Tryz.func6,Tryz.ntmps6
 go_wp2_with (first
  | (go_at_call 16;(with_reducible refine (HOF _ (Ext.refl _)).mono ?_);rintro e w3 ⟨rfl,hx3⟩;have HX3:=hid hx3;clear hx3)
  | (go_at_call 17;(with_reducible refine (HRO _ HX3.out).mono ?_);rintro e w4 ⟨rfl,hx4⟩;have HX4:=hid (HX3.out.trans hx4);clear hx4))
 go_ret2
 exact ⟨rfl,HX4.out⟩
theorem treelooks_any {S : Nat → Prop} {A : Option Addr} {n c : Nat} {l : List Ent} {w : World} (h : Row Elem.ent S w A n c l) (s : ByteArray) (hG : Gu w) (hf : ∀ e ∈ l,EntFits e) :
 Calls Tryz.prog 3 #[.slice A n c,.string s] w fun e w'=>e = .returned (.bool true) ∧ Ext w w':=by
 have HG:=hid hG
 have HAW : ∀ w',Ext w w' → Calls Tryz.prog 4 #[] w' fun e w''=>e = .returned (.bool true) ∧ Ext w' w'':=fun w' hx=>awake10_any w' (hG.gl.ext hx)
 have HSM : ∀ w',Ext w w' → Calls Tryz.prog 5 #[.slice A n c] w' (BoolSays w'):=fun w' hx=>rsmall09_any (h.ext hx)
 unfold BoolSays at HSM
 by_cases hz : 3000 < s.size
 ·have hb : (3000 : Int) < (s.size : Int):=by omega
  clear h hG hf hz
  go_enter Tryz.func3,Tryz.ntmps3
  go_wp2_with (first
   | (go_at_call 4;first
    | ((with_reducible refine (HAW _ (Ext.refl _)).mono ?_);rintro e w1 ⟨rfl,hx1⟩;have HX1:=hid hx1;clear hx1)
    | ((with_reducible refine (HAW _ HX2.out).mono ?_);rintro e w3 ⟨rfl,hx3⟩;have HX3:=hid (HX2.out.trans hx3);clear hx3))
   | (go_at_call 5;(with_reducible refine (HSM _ HX1.out).mono ?_);rintro e w2 ⟨sm,rfl,hx2⟩;have HX2:=hid (HX1.out.trans hx2);clear hx2;cases sm))
  all_goals go_ret
  all_goals exact ⟨rfl,HX3.out⟩
 have hb : ¬ (3000 : Int) < (s.size : Int):=by omega
 clear hz
 by_cases hok : OkOf l
 ·have HBG : ∀ w',Ext w w' → Calls Tryz.prog 6 #[.slice A n c] w' (BeginOk w' l):=fun w' hx=>begin_ok (h.ext hx) (hG.ext hx) hf hok
  unfold BeginOk at HBG
  have hN:=ok_named hok
  have HL4 : Hid (l.length ≤ 1000000):=by show _ ≤ _;have:=hok.1;omega
  have HTG : ∀ g B es clock w',Ext w w' → TreeAt (fun b=>b ≠ B) w' g B es clock l → Calls Tryz.prog 7 #[.pointer (some ⟨g,0,none⟩),.string s] w' (GetSays w' (getO l (bys s))):=fun g B es clock w' hx h1=>tget_any h1 s (HG.out.gl.ext hx) hf
  have HRG : ∀ gw w',Ext w w' → RTree (fun _=>True) w' gw (sortN nmE l) → Calls Tryz.prog 8 #[.pointer (some ⟨gw,0,none⟩),.string s] w' (GetSays w' (getO l (bys s))):=fun gw w' hx h1=>by
   have:=rget_any h1 s (HG.out.gl.ext hx) (fun e he=>hf e ((sortN_ok hN.self hN.apart).1.mem_iff.1 he))
   rwa [getO_sorted hN] at this
  have HTC : ∀ g B es clock w',Ext w w' → TreeAt (fun b=>b ≠ B) w' g B es clock l → Calls Tryz.prog 11 #[.pointer (some ⟨g,0,none⟩),.string s] w' (KidsSays w' (kidsR (sortN nmE l) (bys s))):=fun g B es clock w' hx h1=>tchildren_any h1 s (HG.out.gl.ext hx) HL4.out hN
  have HRC : ∀ gw w',Ext w w' → RTree (fun _=>True) w' gw (sortN nmE l) → Calls Tryz.prog 12 #[.pointer (some ⟨gw,0,none⟩),.string s] w' (KidsSays w' (kidsR (sortN nmE l) (bys s))):=fun gw w' hx h1=>rchildren_any h1 s (HG.out.gl.ext hx) (by rw [(sortN_ok hN.self hN.apart).1.length_eq];exact HL4.out)
  have HSE : ∀ (x : Ent) A1 n1 c1 A2 n2 c2 w',Row Elem.att (fun _=>True) w' A1 n1 c1 x.atts → Row Elem.att (fun _=>True) w' A2 n2 c2 x.atts → Calls Tryz.prog 9 #[.agg #[.string x.name,.slice A1 n1 c1],.agg #[.string x.name,.slice A2 n2 c2]] w' fun e w''=>e = .returned (.bool true) ∧ Ext w' w'':=fun x A1 n1 c1 A2 n2 c2 w' h1 h2=>by
   have:=rsame_any (a:=x) (b:=x) h1 h2
   rwa [decide_eq_true rfl] at this
  have HST : ∀ (k : List ByteArray) A1 n1 c1 A2 n2 c2 w',Row Elem.str (fun _=>True) w' A1 n1 c1 k → Row Elem.str (fun _=>True) w' A2 n2 c2 k → Calls Tryz.prog 10 #[.slice A1 n1 c1,.slice A2 n2 c2] w' fun e w''=>e = .returned (.bool true) ∧ Ext w' w'':=fun k A1 n1 c1 A2 n2 c2 w' h1 h2=>by
   have:=sametexts_any h1 h2
   rwa [decide_eq_true rfl] at this
  generalize getO l (bys s) = o at *
  generalize kidsR (sortN nmE l) (bys s) = ks at *
  unfold GetSays at HTG HRG
  unfold KidsSays at HTC HRC
  generalize o.isSome = ob at *
  generalize o.getD noEnt = ox at *
  clear h hG hf hok hN
  go_enter Tryz.func3,Tryz.ntmps3
  go_wp2_with (first
   | (go_at_call 4;first
    | ((with_reducible refine (HAW _ (Ext.refl _)).mono ?_);rintro e w1 ⟨rfl,hx1⟩;have HX1:=hid hx1;clear hx1)
    | ((with_reducible refine (HAW _ HX2.out).mono ?_);rintro e w3 ⟨rfl,hx3⟩;have HX3:=hid (HX2.out.trans hx3);clear hx3))
   | (go_at_call 5;(with_reducible refine (HSM _ HX1.out).mono ?_);rintro e w2 ⟨sm,rfl,hx2⟩;have HX2:=hid (HX1.out.trans hx2);clear hx2;cases sm)
   | (go_at_call 6;(with_reducible refine (HBG _ HX2.out).mono ?_);rintro e w4 ⟨g,B,es,clock,gw,rfl,ht4,hr4,hx4⟩;have HT4:=hid ht4;have HR4:=hid hr4;have HX4:=hid (HX2.out.trans hx4);clear ht4 hr4 hx4)
   | (go_at_call 7;(with_reducible refine (HTG _ _ _ _ _ HX4.out HT4.out).mono ?_);rintro e w5 ⟨A5,n5,c5,rfl,hr5,hx5⟩;have HBA:=hid (Bx.make (Ext.refl w5) #[.string ox.name,.slice A5 n5 c5] 31);have HXA:=hid (Ext.alloc w5 (.cells #[.string ox.name,.slice A5 n5 c5] 31));have HA5:=hid (hr5.ext HXA.out);have HX5:=hid (HX4.out.trans (hx5.trans HXA.out));have HT5:=hid (HT4.out.ext (hx5.trans HXA.out));have HR5:=hid (HR4.out.ext (hx5.trans HXA.out));clear hr5 hx5)
   | (go_at_call 8;(with_reducible refine (HRG _ _ HX5.out HR5.out).mono ?_);rintro e w6 ⟨A6,n6,c6,rfl,hr6,hx6⟩;have HBB:=hid (Bx.make (Ext.refl w6) #[.string ox.name,.slice A6 n6 c6] 31);have HXB:=hid (hx6.trans (Ext.alloc w6 (.cells #[.string ox.name,.slice A6 n6 c6] 31)));have HA6:=hid (hr6.ext (Ext.alloc w6 (.cells #[.string ox.name,.slice A6 n6 c6] 31)));have HA56:=hid (HA5.out.ext HXB.out);have HX6:=hid (HX5.out.trans HXB.out);have HT6:=hid (HT5.out.ext HXB.out);have HR6:=hid (HR5.out.ext HXB.out);have p0:=(HBA.out.later HXB.out).cell (i:=0) rfl;have p1:=(HBA.out.later HXB.out).cell (i:=1) rfl;have q0:=HBB.out.cell (i:=0) rfl;have q1:=HBB.out.cell (i:=1) rfl;clear hr6 hx6)
   | (go_at_call 9;(with_reducible refine (HSE _ _ _ _ _ _ _ _ HA56.out HA6.out).mono ?_);rintro e w7 ⟨rfl,hx7⟩;have HX7:=hid (HX6.out.trans hx7);have HT7:=hid (HT6.out.ext hx7);have HR7:=hid (HR6.out.ext hx7);clear hx7)
   | (go_at_call 11;(with_reducible refine (HTC _ _ _ _ _ HX7.out HT7.out).mono ?_);rintro e w8 ⟨A8,n8,c8,rfl,hr8,hx8⟩;have HA8:=hid hr8;have HX8:=hid (HX7.out.trans hx8);have HR8:=hid (HR7.out.ext hx8);clear hr8 hx8)
   | (go_at_call 12;(with_reducible refine (HRC _ _ HX8.out HR8.out).mono ?_);rintro e w9 ⟨A9,n9,c9,rfl,hr9,hx9⟩;have HA9:=hid hr9;have HA89:=hid (HA8.out.ext hx9);have HX9:=hid (HX8.out.trans hx9);clear hr9 hx9)
   | (go_at_call 10;(with_reducible refine (HST _ _ _ _ _ _ _ _ HA89.out HA9.out).mono ?_);rintro e w10 ⟨rfl,hx10⟩;have HX10:=hid (HX9.out.trans hx10);clear hx10))
  all_goals go_ret
  all_goals first | exact ⟨rfl,HX10.out⟩ | exact ⟨rfl,HX3.out⟩
 ·have HBG : ∀ w',Ext w w' → Calls Tryz.prog 6 #[.slice A n c] w' fun e w''=>e = .returned (.tuple #[.pointer none,.pointer none]) ∧ Ext w' w'':=fun w' hx=>begin_no (h.ext hx) (hG.ext hx) hf hok
  clear h hG hf hok
  go_enter Tryz.func3,Tryz.ntmps3
  go_wp2_with (first
   | (go_at_call 4;first
    | ((with_reducible refine (HAW _ (Ext.refl _)).mono ?_);rintro e w1 ⟨rfl,hx1⟩;have HX1:=hid hx1;clear hx1)
    | ((with_reducible refine (HAW _ HX2.out).mono ?_);rintro e w3 ⟨rfl,hx3⟩;have HX3:=hid (HX2.out.trans hx3);clear hx3))
   | (go_at_call 5;(with_reducible refine (HSM _ HX1.out).mono ?_);rintro e w2 ⟨sm,rfl,hx2⟩;have HX2:=hid (HX1.out.trans hx2);clear hx2;cases sm)
   | (go_at_call 6;(with_reducible refine (HBG _ HX2.out).mono ?_);rintro e w4 ⟨rfl,hx4⟩;have HX4:=hid (HX2.out.trans hx4);clear hx4))
  all_goals go_ret
  all_goals first | exact ⟨rfl,HX4.out⟩ | exact ⟨rfl,HX3.out⟩
end Go.Proofs.YtejdpadhemeldaaGreatDoor
