/- Lemmas of the walk. -/
import Derived.Test.YtioglicfndkgiaaGreatDoorZ33
import Derived.Test.YtioglicfndkgiaaGreatDoorZ32
import Derived.Test.YtioglicfndkgiaaGreatDoorZ34
import Derived.Test.YtioglicfndkgiaaGreatDoorZ29
set_option maxHeartbeats 40000000
set_option linter.unusedVariables false
set_option linter.unusedSimpArgs false
namespace Go.Proofs.YtioglicfndkgiaaGreatDoor
open Go.RowKit
open Go.Maps Go.MapKept Go.WideShapes Go.ChangeShapes Go.ChangeMaps
set_option maxRecDepth 100000
theorem zlM (w:World):Calls Tryz.prog 132 #[.slice none 0 0,.int .i64 0,.int .i64 0,zgp] w fun e w'=>e=.returned (.tuple #[])∧Ext w w':=by
 go_enter Tryz.func132,Tryz.ntmps132
 go_wp2
 refine wp_loop_once ?_
 go_wp2
 go_end0
 exact ⟨rfl,Ext.refl _⟩
theorem zlF (w:World):Calls Tryz.prog 102 #[.slice none 0 0,.int .i64 0,zgp] w fun e w'=>e=.returned (.tuple #[])∧Ext w w':=by
 go_enter Tryz.func102,Tryz.ntmps102
 go_wp2
 go_loopw [7,8] (fun u v wr=>u=.int .i64 0∧v=.int .i64 20∧wr=w) (fun u v _=>0)
 case atStart=>exact ⟨rfl,rfl,rfl⟩
 case round=>
  obtain ⟨rfl,rfl,rfl⟩:=hrel
  go_wp2_with (go_at_call 132;(with_reducible refine (zlM _).mono ?_);rintro e w2 ⟨rfl,hx2⟩;have HX2:=hid hx2;clear hx2)
  go_loopw [6,7,8,9] (fun u _ _ _ wq=>u=.int .i64 20∧wq=w2) (fun u v _ _ _=>0)
  case atStart=>exact ⟨rfl,rfl⟩
  case round=>
   obtain ⟨rfl,rfl⟩:=hrel
   go_wp2
   go_end0
   exact ⟨rfl,HX2.out⟩
theorem zo8 (w:World):Calls Tryz.prog 73 #[.slice none 0 0,zgp] w fun e w'=>e=.returned (.tuple #[])∧Ext w w':=by
 go_enter Tryz.func73,Tryz.ntmps73
 go_wp2_with (go_at_call 102;(with_reducible refine (zlF _).mono ?_);rintro e w2 ⟨rfl,hx2⟩;have HX2:=hid hx2;clear hx2)
 go_end0
 exact ⟨rfl,HX2.out⟩
theorem zlC (w:World):Calls Tryz.prog 99 #[.slice none 0 0,.int .i64 0,.int .i64 0,zf7] w fun e w'=>e=.returned (.tuple #[])∧Ext w w':=by
 go_enter Tryz.func99,Tryz.ntmps99
 go_wp2
 refine wp_loop_once ?_
 go_wp2
 go_end0
 exact ⟨rfl,Ext.refl _⟩
theorem zlW (w:World):Calls Tryz.prog 70 #[.slice none 0 0,.int .i64 0,zf7] w fun e w'=>e=.returned (.tuple #[])∧Ext w w':=by
 go_enter Tryz.func70,Tryz.ntmps70
 go_wp2
 go_loopw [7,8] (fun u v wr=>u=.int .i64 0∧v=.int .i64 20∧wr=w) (fun u v _=>0)
 case atStart=>exact ⟨rfl,rfl,rfl⟩
 case round=>
  obtain ⟨rfl,rfl,rfl⟩:=hrel
  go_wp2_with (go_at_call 99;(with_reducible refine (zlC _).mono ?_);rintro e w2 ⟨rfl,hx2⟩;have HX2:=hid hx2;clear hx2)
  go_loopw [6,7,8,9] (fun u _ _ _ wq=>u=.int .i64 20∧wq=w2) (fun u v _ _ _=>0)
  case atStart=>exact ⟨rfl,rfl⟩
  case round=>
   obtain ⟨rfl,rfl⟩:=hrel
   go_wp2
   go_end0
   exact ⟨rfl,HX2.out⟩
theorem zpZ (w:World):Calls Tryz.prog 46 #[.slice none 0 0,zf7] w fun e w'=>e=.returned (.tuple #[])∧Ext w w':=by
 go_enter Tryz.func46,Tryz.ntmps46
 go_wp2_with (go_at_call 70;(with_reducible refine (zlW _).mono ?_);rintro e w2 ⟨rfl,hx2⟩;have HX2:=hid hx2;clear hx2)
 go_end0
 exact ⟨rfl,HX2.out⟩
theorem zkt (w:World):Calls Tryz.prog 49 #[.slice none 0 0] w fun e w'=>e=.returned (.tuple #[])∧Ext w w':=by
 go_enter Tryz.func49,Tryz.ntmps49
 go_wp2_with (go_at_call 73;(with_reducible refine (zo8 _).mono ?_);rintro e w2 ⟨rfl,hx2⟩;have HX2:=hid hx2;clear hx2)
 go_end0
 exact ⟨rfl,HX2.out⟩
def zmJ (S:Nat→Prop) (w:World) (l:List Ent) (e:Ending) (w':World):Prop:=∃ A n c,e=.returned (.slice A n c)∧Row Elem.ent (fun b=>S b∨w.heap.size≤b) w' A n c (sortN nmE l)∧Ext w w'
theorem zk3 {S:Nat→Prop} {w:World} {g B:Nat} {es:Array MapEntry} {clock:Nat} {l:List Ent} (h:TreeAt S w g B es clock l) (hG:Gl w) (hn:l.length≤1000000) (hf:∀ e∈l,EntFits e) (hN:Named l) :
 Calls Tryz.prog 23 #[.pointer (some ⟨g,0,none⟩)] w (zmJ S w l):=by
 have HT:=hid h
 have HG:=hid hG
 have HN:=hid hn
 have HFT:=hid hf
 have HNM:=hid hN
 have cg:=h.cell
 unfold zmJ
 clear h hG hn hf hN
 go_enter Tryz.func23,Tryz.ntmps23
 go_wp2_with (at_range;refine zh0 rfl _ rfl rfl HT.out ?_;intro w3 h3 hx3;have HTR3:=hid h3;have HX3:=hid hx3;clear h3 hx3)
 go_frame
 clear cg
 go_loopw [3] (fun v wq=>∃ zs,Hid (TRange S w wq g B w.heap.size es clock l zs)∧Hid (GrowM Elem.ent (fun b=>S b∨w.heap.size≤b) 44 (some w.heap.size) w wq v (zs.map (·.2)))) (fun _ wq=>wq.rangeLeft B w.heap.size)
 case atStart=>exact ⟨[],HTR3.out,GrowM.nil HX3.out (fun g hg=>by injection hg with hg;rw [← hg];exact ⟨Nat.le_refl _,HTR3.out.rng.lt⟩)⟩
 case round=>
  obtain ⟨zs,HTZ,HGR⟩:=hrel
  go_wp2_with (at_next;refine zjC rfl _ rfl rfl HTZ.out ?_ ?_)
  ·intro hperm
   have HP:=hid hperm
   have HXW:=hid HTZ.out.ext
   rcases HGR.out.forms with ⟨rfl,hz⟩ | ⟨g9,n9,c9,rfl,hn9⟩
   ·have HL:Hid (l=[]):=by
     rw [hz] at hperm
     exact List.Perm.eq_nil hperm.symm
    clear hz hperm
    go_wp2_with (go_at_call 49;(with_reducible refine (zkt _).mono ?_);rintro e w5 ⟨rfl,hx5⟩;have HX5:=hid (HXW.out.trans hx5);clear hx5)
    go_ret
    exact ⟨none,0,0,rfl,by rw [HL.out];exact Row.nil _ _ _,HX5.out⟩
   ·have hs9:∀ e∈zs.map (·.2),zbD (nmE e)=true:=fun e he=>HNM.out.self e (hperm.mem_iff.1 he)
    have ha9:Apart nmE (zs.map (·.2)):=HNM.out.apart.perm hperm
    have hle:n9≤4000000:=by rw [hn9,hperm.length_eq];have:=HN.out;omega
    have HSR:Calls Tryz.prog 49 #[.slice (some ⟨g9,0,none⟩) n9 c9] wr (zgY (fun b=>S b∨w.heap.size≤b) w wr (.slice (some ⟨g9,0,none⟩) n9 c9) (zs.map (·.2))):=zj5 HGR.out.free HG.out hle hs9 ha9
    unfold zgY at HSR
    rw [znM (f:=nmE) HNM.out.self HNM.out.apart hperm] at HSR
    have HLN:Hid (n9=(sortN nmE l).length):=by
     show _=_
     rw [(zcd HNM.out.self HNM.out.apart).1.length_eq,← hperm.length_eq]
     exact hn9
    clear hperm hs9 ha9 hle hn9
    go_wp2_with (go_at_call 49;(with_reducible refine HSR.mono ?_);rintro e w5 ⟨rfl,hg5,hf5⟩;have HG5:=hid hg5;clear hg5 hf5)
    go_ret
    obtain ⟨A6,c6,hv,hr⟩:=HG5.out.row
    injection hv with y1 y2 y3
    subst y1 y3
    refine ⟨_,n9,c9,rfl,?_,HG5.out.ext⟩
    rw [y2]
    refine hr.mono fun b _ hb=>?_
    rcases hb with hb | hb
    ·exact hb
    ·exact .inr hb
  ·intro x e w4 A4 n4 c4 hmem hx hT4 hg4 hlt4 hen hr4
   have HTN:=hid hT4
   have HLT:=hid hlt4
   have HR4:=hid hr4
   have HFX:=hid (HFT.out e hmem)
   have HCN:=hid hT4.count
   have HGK:=hid (HGR.out.turnL hg4)
   have HB1:=hid (Bx.make (Ext.refl w4) #[.string e.name,.slice A4 n4 c4] 44)
   have p0:=HB1.out.cell (i:=0) rfl
   have p1:=HB1.out.cell (i:=1) rfl
   have HCP:=zg2 (HR4.out.ext HB1.out.ext) e.name HFX.out.few HFX.out.vals
   unfold zco at HCP
   have HLN:Hid ((zs.map (·.2)).length≤4000000):=by
    show _≤_
    have h1:=HCN.out
    have h2:=HN.out
    rw [List.length_append] at h1
    rw [List.length_map]
    omega
   have HMP:Hid (zs.map (·.2)++[e]=(zs++[(x,e)]).map (·.2)):=by show _=_;simp
   have HTB:Hid (B<w.heap.size):=HT.out.map.lt
   have HZ4:Hid (w.heap.size≤w4.heap.size):=hT4.ext.size
   clear hmem hx hT4 hg4 hlt4 hr4
   go_wp2_with (first
    | (go_at_call 38;(with_reducible refine HCP.mono ?_);rintro e5 w5 ⟨A5,n5,c5,rfl,hr5,hx5⟩;have HX5:=hid (HB1.out.ext.trans hx5);have HG5:=hid (HGK.out.later HX5.out);have HE5:=hid ((HGK.out.later HB1.out.ext).new (w1:=w5) (u:=[.string e.name,.slice A5 n5 c5]) (x:=e) (S':=fun b=>(S b∧b<w.heap.size)∨(w4.alloc (.cells #[.string e.name,.slice A4 n4 c4] 44)).heap.size≤b) (fun b _ hb=>by (rcases hb with hb | hb);(exact .inl hb.1);(have h2:=HZ4.out;simp only [World.alloc,Array.size_push] at hb;exact .inr (by omega))) (fun b hb=>by (rcases hb with hb | hb);(exact .inl hb.2);(exact .inr hb)) ⟨A5,n5,c5,rfl,hr5⟩);clear hr5 hx5)
    | (at_builtin;refine zky Tryz.underlying22 zn6 rfl (by decide) rfl _ _ rfl _ _ rfl HG5.out (u:=[.string e.name,.slice A5 n5 c5]) e HE5.out (by intro c hc;simp at hc;rcases hc with rfl | rfl <;> rfl) rfl rfl HLN.out ?_;intro v6 w6 hg6 hq6 hb6;have HG6:=hid hg6;have HX6:=hid (HX5.out.trans (Ext.alloc _ (.cells #[.string e.name,.slice A5 n5 c5] 44)));have HT6:=hid ((HTN.out.later HX6.out).kept hq6 (fun e=>(HG5.out.apart _ rfl).1 e.symm) (fun k hk=>(HG5.out.lt hk).1));clear hg6 hq6 hb6))
   refine ⟨⟨zs++[(x,e)],HT6.out,?_⟩,?_⟩
   ·rw [← HMP.out]
    exact HG6.out
   ·rw [HT6.out.rng.left_eq,← HTN.out.rng.left_eq]
    exact HLT.out
end Go.Proofs.YtioglicfndkgiaaGreatDoor
