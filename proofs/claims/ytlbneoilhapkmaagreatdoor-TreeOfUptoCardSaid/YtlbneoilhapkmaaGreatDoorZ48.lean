/- Lemmas of the walk that the last text of this claim joins. -/
import Derived.Test.YtlbneoilhapkmaaGreatDoorZ45
import Derived.Test.YtlbneoilhapkmaaGreatDoorZ47
import Derived.Test.YtlbneoilhapkmaaGreatDoorZ41
import Derived.Test.YtlbneoilhapkmaaGreatDoorZ12
set_option maxHeartbeats 40000000
set_option linter.unusedVariables false
set_option linter.unusedSimpArgs false
namespace Go.Proofs.YtlbneoilhapkmaaGreatDoor
open Go.RowKit
open Go.Maps Go.MapKept Go.WideShapes Go.ChangeShapes Go.ChangeMaps
set_option maxRecDepth 100000
structure RTree (S : Nat → Prop) (w : World) (g : Nat) (r : List Ent) : Prop where
 ex : ∃ A n c,w.heap[g]? = some (.cells #[.slice A n c] 96 (0,0)) ∧ Row Elem.ent S w A n c r
theorem RTree.ext {S : Nat → Prop} {w w' : World} {g : Nat} {r : List Ent} (h : RTree S w g r) (hx : Ext w w') : RTree S w' g r:=by
 obtain ⟨A,n,c,h1,h2⟩:=h.ex
 exact ⟨A,n,c,row_later' h1 hx,h2.ext hx⟩
theorem ok_named {l : List Ent} (h : OkOf l) : Named l:=by
 have hs : ∀ e ∈ l,selfN (nmE e) = true:=fun e he=>by
  obtain ⟨i,hi⟩:=List.getElem?_of_mem he
  exact formed_self (h.2.1 i e (List.getElem?_eq_some_iff.1 hi).1 hi).2
 refine ⟨hs,List.pairwise_iff_getElem.2 fun i j hi hj hij=>?_⟩
 have h1:=(h.2.1 j l[j] hj (List.getElem?_eq_getElem hj)).1
 rw [entOf_any,List.any_eq_false] at h1
 have h2:=h1 l[i] (List.mem_of_getElem? (i:=i) (by rw [List.getElem?_take_of_lt hij];exact List.getElem?_eq_getElem hi))
 simpa using h2
theorem same10_any {S : Nat → Prop} {w : World} {g B gw : Nat} {es : Array MapEntry} {clock : Nat} {l r : List Ent} (h : TreeAt (fun b=>b ≠ B) w g B es clock l) (k : RTree S w gw r) (hG : Gl w) (hn : l.length ≤ 1000000) (hf : ∀ e ∈ l,EntFits e) (hN : Named l) (hr : r = sortN nmE l) :
 Calls Tryz.prog 18 #[.pointer (some ⟨g,0,none⟩),.pointer (some ⟨gw,0,none⟩)] w fun e w'=>e = .returned (.bool true) ∧ Ext w w':=by
 obtain ⟨A,n,c,hk,hrow⟩:=k.ex
 have c1 : w.cell? ⟨gw,0,none⟩ = some (.slice A n c):=by rw [cell_of_row w gw 0 _ _ (0,0) hk];rfl
 have HNL : Hid (n = l.length):=by show _ = _;rw [hrow.len,hr];exact (sortN_ok hN.self hN.apart).1.length_eq
 have HAL : ∀ w',Ext w w' → Calls Tryz.prog 54 #[.pointer (some ⟨g,0,none⟩)] w' (AllSays w' B l):=fun w' hx=>treeall_any (h.ext hx) (hG.ext hx) hn hf hN
 unfold AllSays at HAL
 have HSA : ∀ (A' : Option Addr) n' c' w',Ext w w' → Row Elem.ent (fun b=>b ≠ B) w' A' n' c' (sortN nmE l) → Calls Tryz.prog 42 #[.slice A' n' c',.slice A n c] w' fun e w''=>e = .returned (.bool true) ∧ Ext w' w'':=fun A' n' c' w' hx hq=>by
  have:=rsameall_any hq (hrow.ext hx)
  rw [hr,decide_eq_true rfl] at this
  exact this
 have HLN : ∀ w',Ext w w' → Calls Tryz.prog 60 #[.pointer (some ⟨g,0,none⟩)] w' fun e w''=>e = .returned (.int .i64 (n : Int)) ∧ Ext w' w'':=fun w' hx=>by
  have:=tlen_any (h.ext hx)
  rw [← HNL.out] at this
  exact this
 have t1 : ((n : Int) == (n : Int)) = true:=by simp
 clear h k hG hn hf hN hr hk hrow
 go_enter Tryz.func18,Tryz.ntmps18
 go_wp2
 refine wp_region_plan (.read 0 (.read 2 (.read 3 (.read 4 (.read 5 (.main 1 (.main 6 (.read 7 (.read 8 (.read 10 (.read 11 (.read 12 (.read 13 (.read 14 (.main 9 (.read 15 (.read 16 (.read 17 .done)))))))))))))))))) (by kernel_rfl) (by kernel_rfl) ?_
 intro wD hxD
 have XE : Hid (Ext wD wD):=Ext.refl _
 have pc1:=cell_later (cell_later c1 _ hxD)
 have HXD:=hid hxD
 repeat' (first
  | ((first | refine walks_move rfl rfl ?_ | refine walks_assign rfl rfl ?_ | refine walks_skip rfl rfl ?_);simp only [Act.put,Act.eval,evs])
  | (refine walks_unwanted rfl rfl ?_;simp only [Act.put,evp])
  | (refine walks_read (v:=?_) rfl rfl (fun w' hE=>?_) ?_;rotate_left 1;(· ((try (have hEx:=Ext.trans (Hid.out XE) hE));go_simp;(try go_bits);with_reducible rfl));simp only [Act.put,evp])
  | (refine walks_alt ?_ ?_)
  | (refine walks_main rfl rfl (fun K hK=>?_);go_wp2_with ((first | (go_at_call 54;(with_reducible refine (HAL _ (HXD.out.trans XE.out)).mono ?_);rintro e w2 ⟨A2,n2,c2,rfl,hr2,hx2⟩;have HR2:=hid hr2;clear hr2;have XE':=hid (Ext.trans (Hid.out XE) hx2);clear XE;have XE:=XE';clear XE') | (go_at_call 42;(with_reducible refine (HSA _ _ _ _ (HXD.out.trans XE.out) HR2.out).mono ?_);rintro e w3 ⟨rfl,hx3⟩;have XE':=hid (Ext.trans (Hid.out XE) hx3);clear XE;have XE:=XE';clear XE') | (go_at_call 60;(with_reducible refine (HLN _ (HXD.out.trans XE.out)).mono ?_);rintro e w4 ⟨rfl,hx4⟩;have XE':=hid (Ext.trans (Hid.out XE) hx4);clear XE;have XE:=XE';clear XE')));refine hK _ _ (by first | assumption | exact Ext.alloc _ _ | exact Ext.refl _) ?_;clear hK K;try simp only [Act.put,evp]))
 all_goals
  refine walks_done ?_
  go_wp2
  go_ret
  exact ⟨rfl,HXD.out.trans XE.out⟩
theorem treeof10_any {S : Nat → Prop} {A : Option Addr} {n c : Nat} {l : List Ent} {w : World} (h : Row Elem.ent S w A n c l) (hG : Gu w) (hf : ∀ e ∈ l,EntFits e) :
 Calls Tryz.prog 3 #[.slice A n c] w fun e w'=>e = .returned (.bool true) ∧ Ext w w':=by
 have HG:=hid hG
 have HR:=hid h
 have HFT:=hid hf
 have HAW : ∀ w',Ext w w' → Calls Tryz.prog 14 #[] w' fun e w''=>e = .returned (.bool true) ∧ Ext w' w'':=fun w' hx=>awake10_any w' (hG.gl.ext hx)
 have HSM : ∀ w',Ext w w' → Calls Tryz.prog 15 #[.slice A n c] w' (BoolSays w'):=fun w' hx=>rsmall09_any (h.ext hx)
 unfold BoolSays at HSM
 have HOF : ∀ w',Ext w w' → Calls Tryz.prog 16 #[.slice A n c] w' (OfSays w' l):=fun w' hx=>treeof_any (h.ext hx) (hG.ext hx) hf
 have HRO : ∀ w',Ext w w' → Calls Tryz.prog 17 #[.slice A n c] w' (ROfSays w' l):=fun w' hx=>rof_any (h.ext hx) (hG.ext hx) hf
 clear h hG hf
 by_cases hok : OkOf l
 ·have hof : ∀ w',Ext w w' → Calls Tryz.prog 16 #[.slice A n c] w' fun e w''=>∃ g B es clock,e = .returned (.tuple #[.pointer (some ⟨g,0,none⟩),.int .i64 0]) ∧ TreeAt (fun b=>b ≠ B) w'' g B es clock l ∧ Ext w' w'':=fun w' hx=>(HOF w' hx).mono fun e w'' h=>by
   rcases h with ⟨-,g,B,es,clock,h1,h2,-,-,h3⟩ | ⟨h1,-⟩
   ·exact ⟨g,B,es,clock,h1,h2,h3⟩
   ·exact absurd hok h1
  have hro : ∀ w',Ext w w' → Calls Tryz.prog 17 #[.slice A n c] w' fun e w''=>∃ g,e = .returned (.tuple #[.pointer (some ⟨g,0,none⟩),.int .i64 0]) ∧ RTree (fun _=>True) w'' g (sortN nmE l) ∧ Ext w' w'':=fun w' hx=>(HRO w' hx).mono fun e w'' h=>by
   rcases h with ⟨-,g,A',n',c',h1,h2,-,h3,h4⟩ | ⟨h1,-⟩
   ·exact ⟨g,h1,⟨A',n',c',h2,h3.mono fun _ _ _=>trivial⟩,h4⟩
   ·exact absurd hok h1
  have HNM:=hid (ok_named hok)
  have HL4 : Hid (l.length ≤ 1000000):=by show _ ≤ _;have:=hok.1;omega
  have HSA : ∀ g B gw es clock w',Ext w w' → TreeAt (fun b=>b ≠ B) w' g B es clock l → RTree (fun _=>True) w' gw (sortN nmE l) → Calls Tryz.prog 18 #[.pointer (some ⟨g,0,none⟩),.pointer (some ⟨gw,0,none⟩)] w' fun e w''=>e = .returned (.bool true) ∧ Ext w' w'':=fun g B gw es clock w' hx h1 h2=>same10_any h1 h2 (HG.out.gl.ext hx) HL4.out HFT.out HNM.out rfl
  have HSB : ∀ g B gw es clock l2 w',Ext w w' → TreeAt (fun b=>b ≠ B) w' g B es clock l2 → l2.Perm l → RTree (fun _=>True) w' gw (sortN nmE l) → Calls Tryz.prog 18 #[.pointer (some ⟨g,0,none⟩),.pointer (some ⟨gw,0,none⟩)] w' fun e w''=>e = .returned (.bool true) ∧ Ext w' w'':=fun g B gw es clock l2 w' hx h1 hp h2=>
   same10_any h1 h2 (HG.out.gl.ext hx) (by rw [hp.length_eq];exact HL4.out) (fun e he=>HFT.out e (hp.mem_iff.1 he)) ⟨fun e he=>HNM.out.self e (hp.mem_iff.1 he),HNM.out.apart.perm hp⟩ (sortN_perm (f:=nmE) HNM.out.self HNM.out.apart hp).symm
  have HCO : ∀ g B es clock w',Ext w w' → TreeAt (fun b=>b ≠ B) w' g B es clock l → Calls Tryz.prog 19 #[.pointer (some ⟨g,0,none⟩)] w' (TCopySays w' l):=fun g B es clock w' hx h1=>tcopy_any h1 HL4.out HFT.out
  unfold TCopySays at HCO
  clear HOF HRO hok
  go_enter Tryz.func3,Tryz.ntmps3
  go_wp2_with (first
   | (go_at_call 14;first
    | ((with_reducible refine (HAW _ (Ext.refl _)).mono ?_);rintro e w1 ⟨rfl,hx1⟩;have HX1:=hid hx1;clear hx1)
    | ((with_reducible refine (HAW _ HX2.out).mono ?_);rintro e w3 ⟨rfl,hx3⟩;have HX3:=hid (HX2.out.trans hx3);clear hx3))
   | (go_at_call 15;(with_reducible refine (HSM _ HX1.out).mono ?_);rintro e w2 ⟨sm,rfl,hx2⟩;have HX2:=hid (HX1.out.trans hx2);clear hx2;cases sm)
   | (go_at_call 16;(with_reducible refine (hof _ HX2.out).mono ?_);rintro e w3 ⟨g,B,es,clock,rfl,ht3,hx3⟩;have HT3:=hid ht3;have HX3:=hid (HX2.out.trans hx3);clear ht3 hx3)
   | (go_at_call 17;(with_reducible refine (hro _ HX3.out).mono ?_);rintro e w4 ⟨gw,rfl,hr4,hx4⟩;have HR4:=hid hr4;have HT4:=hid (HT3.out.ext hx4);have HX4:=hid (HX3.out.trans hx4);clear hr4 hx4)
   | (go_at_call 18;first
    | ((with_reducible refine (HSA _ _ _ _ _ _ HX4.out HT4.out HR4.out).mono ?_);rintro e w5 ⟨rfl,hx5⟩;have HX5:=hid (HX4.out.trans hx5);have HT5:=hid (HT4.out.ext hx5);have HR5:=hid (HR4.out.ext hx5);clear hx5)
    | ((with_reducible refine (HSB _ _ _ _ _ _ _ HX6.out HT6.out HP6.out HR6.out).mono ?_);rintro e w7 ⟨rfl,hx7⟩;have HX7:=hid (HX6.out.trans hx7);clear hx7))
   | (go_at_call 19;(with_reducible refine (HCO _ _ _ _ _ HX5.out HT5.out).mono ?_);rintro e w6 ⟨g6,B6,es6,cl6,l6,rfl,ht6,hp6,-,-,hx6⟩;have HT6:=hid ht6;have HP6:=hid hp6;have HR6:=hid (HR5.out.ext hx6);have HX6:=hid (HX5.out.trans hx6);clear ht6 hp6 hx6))
  all_goals go_ret
  all_goals first | exact ⟨rfl,HX7.out⟩ | exact ⟨rfl,HX3.out⟩
 ·have hof : ∀ w',Ext w w' → Calls Tryz.prog 16 #[.slice A n c] w' fun e w''=>e = .returned (.tuple #[.pointer none,.int .i64 2]) ∧ Ext w' w'':=fun w' hx=>(HOF w' hx).mono fun e w'' h=>by
   rcases h with ⟨h1,-⟩ | ⟨-,h1,h2⟩
   ·exact absurd h1 hok
   ·exact ⟨h1,h2⟩
  have hro : ∀ w',Ext w w' → Calls Tryz.prog 17 #[.slice A n c] w' fun e w''=>e = .returned (.tuple #[.pointer none,.int .i64 2]) ∧ Ext w' w'':=fun w' hx=>(HRO w' hx).mono fun e w'' h=>by
   rcases h with ⟨h1,-⟩ | ⟨-,h1,h2⟩
   ·exact absurd h1 hok
   ·exact ⟨h1,h2⟩
  clear HOF HRO hok
  go_enter Tryz.func3,Tryz.ntmps3
  go_wp2_with (first
   | (go_at_call 14;first
    | ((with_reducible refine (HAW _ (Ext.refl _)).mono ?_);rintro e w1 ⟨rfl,hx1⟩;have HX1:=hid hx1;clear hx1)
    | ((with_reducible refine (HAW _ HX2.out).mono ?_);rintro e w3 ⟨rfl,hx3⟩;have HX3:=hid (HX2.out.trans hx3);clear hx3))
   | (go_at_call 15;(with_reducible refine (HSM _ HX1.out).mono ?_);rintro e w2 ⟨sm,rfl,hx2⟩;have HX2:=hid (HX1.out.trans hx2);clear hx2;cases sm)
   | (go_at_call 16;(with_reducible refine (hof _ HX2.out).mono ?_);rintro e w3 ⟨rfl,hx3⟩;have HX3:=hid (HX2.out.trans hx3);clear hx3)
   | (go_at_call 17;(with_reducible refine (hro _ HX3.out).mono ?_);rintro e w4 ⟨rfl,hx4⟩;have HX4:=hid (HX3.out.trans hx4);clear hx4))
  all_goals go_ret
  all_goals first | exact ⟨rfl,HX4.out⟩ | exact ⟨rfl,HX3.out⟩
end Go.Proofs.YtlbneoilhapkmaaGreatDoor
