/- Lemmas of the walk that the last text of this claim joins. -/
import Derived.Test.YtahahafhendgoaaGreatDoorZ15
import Derived.Test.YtahahafhendgoaaGreatDoorZ11
set_option maxHeartbeats 40000000
set_option linter.unusedVariables false
set_option linter.unusedSimpArgs false
namespace Go.Proofs.YtahahafhendgoaaGreatDoor
open Go.RowKit
set_option maxRecDepth 100000
theorem splitF_sep {sep c : UInt8} {cur t : List UInt8} (h : c = sep) : splitF sep cur (c :: t) = cur :: splitF sep [] t:=by conv=>lhs;unfold splitF;rw [if_pos h]
theorem splitF_esc1 {sep : UInt8} {cur : List UInt8} (h : sep ≠ 92) : splitF sep cur [92] = [cur ++ [92]]:=by unfold splitF;rw [if_neg (fun e=>h e.symm),if_pos rfl]
theorem splitF_esc {sep d : UInt8} {cur t : List UInt8} (h : sep ≠ 92) : splitF sep cur (92 :: d :: t) = splitF sep (cur ++ [92,d]) t:=by rw [splitF,if_neg (fun e=>h e.symm),if_pos rfl]
theorem splitF_any {sep c : UInt8} {cur t : List UInt8} (h : ¬ c = sep) (k : ¬ c = 92) : splitF sep cur (c :: t) = splitF sep (cur ++ [c]) t:=by conv=>lhs;unfold splitF;rw [if_neg h,if_neg k]
theorem set_last {l : List ByteArray} {x y : ByteArray} : (l ++ [x]).set l.length y = l ++ [y]:=by rw [List.set_append_right _ _ (Nat.le_refl _)];simp
theorem set_last' {l : List ByteArray} {n : Nat} {x y : ByteArray} (h : n = l.length) : (l ++ [x]).set n y = l ++ [y]:=by rw [h];exact set_last
theorem bys_ext (s : ByteArray) (a b : Nat) : bys (s.extract a b) = ((bys s).drop a).take (b - a):=Lib.extract_data s a b
theorem growS_lit1 (w : World) (y : ByteArray) : GrowS w (w.alloc (.cells #[.string y] 9)) (.slice (some ⟨w.heap.size,0,none⟩) 1 1) [y]:=
 ⟨⟨rfl,.inr ⟨w.heap.size,1,#[.string y],rfl,Nat.le_refl _,heap_alloc_new w _,Nat.le_refl _,by simp [maxLen],rfl,rfl⟩⟩,Ext.alloc _ _⟩
theorem ne_byte {a b : UInt8} (h : ¬ a = b) : ((a.toNat : Int) == (b.toNat : Int)) = false:=by
 rw [beq_eq_false_iff_ne]
 intro e
 exact h (UInt8.toNat_inj.1 (by omega))
theorem eq_byte {a b : UInt8} (h : a = b) : ((a.toNat : Int) == (b.toNat : Int)) = true:=by rw [h];exact beq_self_eq_true _
theorem piece_ext {s : ByteArray} {j k : Nat} {p : List UInt8} {r : List UInt8} (h : (bys s).drop j = p ++ r) (hk : k = j + p.length) : s.extract j k = str p:=by
 rw [← str_bys (s.extract j k),bys_ext,h]
 subst hk
 rw [Nat.add_sub_cancel_left,List.take_left]
theorem split_any (s : ByteArray) (sep : UInt8) (hsep : sep ≠ 92) (w : World) (hs : s.size ≤ 4000000) :
 Calls Tryz.prog 89 #[.string s,.int .u8 (sep.toNat : Int)] w fun e w'=>∃ v,e = .returned v ∧ GrowS w w' v (strs (splitF sep [] (bys s))):=by
 have Hs:=hid hs
 have HSP:=hid hsep
 have tsep : ((sep.toNat : Int) != 92) = true:=by
  have h : ((sep.toNat : Int) == 92) = false:=byte_isnt (k:=92) hsep
  rw [bne,h];rfl
 clear hsep
 go_enter Tryz.func89,Tryz.ntmps89
 go_wp2
 go_loopw [5,6] (fun v i wr=>∃ (j : Nat) (dn : List (List UInt8)) (cur : List UInt8),j ≤ s.size ∧ i = .int .i64 j ∧ dn.length ≤ j ∧ cur.length ≤ j ∧ Hid (GrowS w wr v (strs dn ++ [str cur])) ∧ Hid (dn ++ splitF sep cur ((bys s).drop j) = splitF sep [] (bys s))) (fun _ i _=>s.size - (intOf i).toNat)
 case atStart=>exact ⟨0,[],[],by omega,rfl,by simp,by simp,growS_lit1 w _,by simp [Hid]⟩
 case round=>
  obtain ⟨j,dn,cur,hj,rfl,hdn,hcur,HG,HR⟩:=hrel
  have hn : Hid ((strs dn ++ [str cur]).length = dn.length + 1):=by show _ = _;simp
  obtain ⟨g,cap,rfl,hg1,hg2,hg3,hg4⟩:=HG.out.form (by rw [hn.out];omega)
  have hc:=hg4 dn.length (by rw [hn.out];omega)
  have hcv : (strs dn ++ [str cur])[dn.length]?.getD ByteArray.empty = str cur:=by
   have : dn.length = (strs dn).length:=by simp
   rw [this,List.getElem?_append_right (Nat.le_refl _)]
   simp
  rw [hcv] at hc
  have hcap : Hid (dn.length + 1 ≤ cap ∧ cap ≤ maxLen):=by show _ ∧ _;rw [hn.out] at hg2;exact ⟨hg2,hg3⟩
  rw [hn.out] at HG
  rw [hn.out]
  clear hg2 hg3 hg4 hcv
  by_cases hlt : j < s.size
  ·obtain ⟨x,hx⟩ : ∃ x,(bys s)[j]? = some x:=⟨_,List.getElem?_eq_getElem (by rw [bys_len];exact hlt)⟩
   have gx:=bys_get hx hlt
   have hd : Hid ((bys s).drop j = x :: (bys s).drop (j + 1)):=by
    show _ = _
    obtain ⟨h1,h2⟩:=List.getElem?_eq_some_iff.1 hx
    rw [List.drop_eq_getElem_cons h1,h2]
   clear hx
   by_cases hxs : x = sep
   ·have t1:=eq_byte hxs
    have HH : Hid ((dn ++ [cur]) ++ splitF sep [] ((bys s).drop (j + 1)) = splitF sep [] (bys s)):=by show _ = _;rw [← HR.out,hd.out,splitF_sep hxs];simp
    clear hxs
    go_wp2_with (at_builtin;refine append_str1 rfl _ _ rfl _ _ rfl HG.out rfl (by rw [hn.out];omega) ?_;intro v' w3 hg3;have HG3:=hid hg3;clear hg3)
    exact ⟨⟨j + 1,dn ++ [cur],[],by omega,by go_num,by simp;omega,by simp,by rw [show strs (dn ++ [cur]) = strs dn ++ [str cur] by simp];exact HG3,HH⟩,by simp [intOf];omega⟩
   ·have t1:=ne_byte hxs
    by_cases h92 : x = 92
    ·have t2 : ((x.toNat : Int) == 92) = true:=byte_is (k:=92) (by decide) h92
     by_cases hl : j + 1 < s.size
     ·obtain ⟨y,hy⟩ : ∃ y,(bys s)[j + 1]? = some y:=⟨_,List.getElem?_eq_getElem (by rw [bys_len];exact hl)⟩
      have hd2 : (bys s).drop (j + 1) = y :: (bys s).drop (j + 1 + 1):=by
       obtain ⟨h1,h2⟩:=List.getElem?_eq_some_iff.1 hy
       rw [List.drop_eq_getElem_cons h1,h2]
      have hp : s.extract j (j + 2) = str [x,y]:=piece_ext (r:=(bys s).drop (j + 2)) (by rw [hd.out,hd2];rfl) rfl
      have HH : Hid (dn ++ splitF sep (cur ++ [x,y]) ((bys s).drop (j + 2)) = splitF sep [] (bys s)):=by show _ = _;rw [← HR.out,hd.out,hd2,h92,splitF_esc HSP.out]
      have z1 : ¬ 9223372036854775807 < cur.length + 2:=by omega
      have z2 : min ((j : Int) + 2) (s.size : Int) = (j : Int) + 2:=by omega
      have z3 : (j : Int) + 2 ≤ (s.size : Int):=by omega
      have z4 : (j : Int) ≤ (j : Int) + 2:=by omega
      have z5 : ((j : Int) + 2).toNat = j + 2:=by omega
      clear hxs h92 hd2 hy
      have zl : (dn.length : Int) < (dn.length : Int) + 1:=by omega
      go_wp2
      refine wp_region_planB w.heap.size (.read 0 (.read 1 (.read 2 (.read 3 (.read 4 (.read 6 (.read 7 (.read 8 (.read 9 (.main 5 (.read 10 (.read 11 (.main 12 .done))))))))))))) (by kernel_rfl) (by kernel_rfl) ?_
      intro wD hxD
      have XB : Hid (Below w.heap.size wD wD):=Below.refl _ _
      have HC:=hid (cell_later hc _ hxD)
      have HGD:=hid (HG.out.later hxD)
      repeat' (first
       | ((first | refine walksB_move rfl rfl ?_ | refine walksB_assign rfl rfl ?_ | refine walksB_skip rfl rfl ?_);simp only [Act.put,Act.eval,evs])
       | (refine walksB_unwanted rfl rfl ?_;simp only [Act.put,evp])
       | (refine walksB_read (v:=?_) rfl rfl (fun w' hE=>?_) ?_;rotate_left 1;(· ((try (have hEx:=Below.trans (Hid.out XB) hE));go_simp;(try go_bits);with_reducible rfl));simp only [Act.put,evp])
       | (refine walksB_main rfl rfl (fun K hK=>?_);(first | (refine wp_load_cell 9 (.tmp 42) rfl ⟨g,dn.length,none⟩ rfl (.string (str cur)) HC.out Tryz.isAgg9 ?_) | (refine store_str_wp (.tmp 49) (.tmp 48) rfl g dn.length _ cap rfl (str cur ++ str [x,y]) rfl _ HGD.out hn.out.symm (by rw [hn.out];omega) ?_;intro w6 hg6 hb6;have HG6:=hid hg6;clear hg6;have XB':=hid (Below.trans (Hid.out XB) (hb6));clear XB;have XB:=XB';clear XB'));refine hK _ _ (by first | assumption | exact Below.refl _ _ | exact Below.mono (Ext.alloc _ _) (Hid.out HSW) | exact Below.setCell (p:=⟨_,_,_⟩) (Below.refl _ _) (Nat.le_refl _) _) ?_;clear hK K;try simp only [Act.put,evp])
       | (refine walksB_alt ?_ ?_)
       | (refine walksB_main rfl rfl (fun K hK=>?_);go_wp2_with (fail);refine hK _ _ (by first | assumption | exact Below.refl _ _ | exact Below.mono (Ext.alloc _ _) (Hid.out HSW) | exact Below.setCell (p:=⟨_,_,_⟩) (Below.refl _ _) (Nat.le_refl _) _) ?_;clear hK K;try simp only [Act.put,evp]))
      refine walksB_done ?_
      have HG7 : Hid (GrowS w w6 (.slice (some ⟨g,0,none⟩) (dn.length + 1) cap) (strs dn ++ [str (cur ++ [x,y])])):=by
       have h:=HG6.out
       rw [str_app,set_last' (by simp)] at h
       exact h
      clear HG6 HC HGD
      go_wp2
      exact ⟨⟨j + 2,dn,cur ++ [x,y],by omega,by go_num,by omega,by simp;omega,HG7,HH⟩,by simp [intOf];omega⟩
     ·have hnil : (bys s).drop (j + 1) = []:=List.drop_eq_nil_of_le (by rw [bys_len];omega)
      have hp : s.extract j s.size = str [x]:=piece_ext (r:=(bys s).drop (j + 1)) hd.out (by simp;omega)
      have HH : Hid (dn ++ splitF sep (cur ++ [x]) ((bys s).drop (j + 1)) = splitF sep [] (bys s)):=by show _ = _;rw [← HR.out,hd.out,hnil,h92,splitF_esc1 HSP.out];rfl
      have z1 : ¬ 9223372036854775807 < cur.length + 1:=by omega
      have z2 : min ((j : Int) + 2) (s.size : Int) = (s.size : Int):=by omega
      clear hxs h92 hnil
      have zl : (dn.length : Int) < (dn.length : Int) + 1:=by omega
      go_wp2
      refine wp_region_planB w.heap.size (.read 0 (.read 1 (.read 2 (.read 3 (.read 4 (.read 6 (.read 7 (.read 8 (.read 9 (.main 5 (.read 10 (.read 11 (.main 12 .done))))))))))))) (by kernel_rfl) (by kernel_rfl) ?_
      intro wD hxD
      have XB : Hid (Below w.heap.size wD wD):=Below.refl _ _
      have HC:=hid (cell_later hc _ hxD)
      have HGD:=hid (HG.out.later hxD)
      repeat' (first
       | ((first | refine walksB_move rfl rfl ?_ | refine walksB_assign rfl rfl ?_ | refine walksB_skip rfl rfl ?_);simp only [Act.put,Act.eval,evs])
       | (refine walksB_unwanted rfl rfl ?_;simp only [Act.put,evp])
       | (refine walksB_read (v:=?_) rfl rfl (fun w' hE=>?_) ?_;rotate_left 1;(· ((try (have hEx:=Below.trans (Hid.out XB) hE));go_simp;(try go_bits);with_reducible rfl));simp only [Act.put,evp])
       | (refine walksB_main rfl rfl (fun K hK=>?_);(first | (refine wp_load_cell 9 (.tmp 42) rfl ⟨g,dn.length,none⟩ rfl (.string (str cur)) HC.out Tryz.isAgg9 ?_) | (refine store_str_wp (.tmp 49) (.tmp 48) rfl g dn.length _ cap rfl (str cur ++ str [x]) rfl _ HGD.out hn.out.symm (by rw [hn.out];omega) ?_;intro w6 hg6 hb6;have HG6:=hid hg6;clear hg6;have XB':=hid (Below.trans (Hid.out XB) (hb6));clear XB;have XB:=XB';clear XB'));refine hK _ _ (by first | assumption | exact Below.refl _ _ | exact Below.mono (Ext.alloc _ _) (Hid.out HSW) | exact Below.setCell (p:=⟨_,_,_⟩) (Below.refl _ _) (Nat.le_refl _) _) ?_;clear hK K;try simp only [Act.put,evp])
       | (refine walksB_alt ?_ ?_)
       | (refine walksB_main rfl rfl (fun K hK=>?_);go_wp2_with (fail);refine hK _ _ (by first | assumption | exact Below.refl _ _ | exact Below.mono (Ext.alloc _ _) (Hid.out HSW) | exact Below.setCell (p:=⟨_,_,_⟩) (Below.refl _ _) (Nat.le_refl _) _) ?_;clear hK K;try simp only [Act.put,evp]))
      refine walksB_done ?_
      have HG7 : Hid (GrowS w w6 (.slice (some ⟨g,0,none⟩) (dn.length + 1) cap) (strs dn ++ [str (cur ++ [x])])):=by
       have h:=HG6.out
       rw [str_app,set_last' (by simp)] at h
       exact h
      clear HG6 HC HGD
      go_wp2
      exact ⟨⟨j + 1,dn,cur ++ [x],by omega,by go_num,by omega,by simp;omega,HG7,HH⟩,by simp [intOf];omega⟩
    ·have t2 : ((x.toNat : Int) == 92) = false:=byte_isnt (k:=92) h92
     have hp : s.extract j (j + 1) = str [x]:=piece_ext (r:=(bys s).drop (j + 1)) hd.out rfl
     have HH : Hid (dn ++ splitF sep (cur ++ [x]) ((bys s).drop (j + 1)) = splitF sep [] (bys s)):=by show _ = _;rw [← HR.out,hd.out,splitF_any hxs h92]
     have z1 : ¬ 9223372036854775807 < cur.length + 1:=by omega
     have z3 : (j : Int) + 1 ≤ (s.size : Int):=by omega
     have z4 : (j : Int) ≤ (j : Int) + 1:=by omega
     have z5 : ((j : Int) + 1).toNat = j + 1:=by omega
     clear hxs h92
     have zl : (dn.length : Int) < (dn.length : Int) + 1:=by omega
     go_wp2
     refine wp_region_planB w.heap.size (.read 0 (.read 1 (.read 2 (.read 3 (.read 4 (.read 6 (.read 7 (.read 8 (.read 9 (.main 5 (.read 10 (.read 11 (.main 12 .done))))))))))))) (by kernel_rfl) (by kernel_rfl) ?_
     intro wD hxD
     have XB : Hid (Below w.heap.size wD wD):=Below.refl _ _
     have HC:=hid (cell_later hc _ hxD)
     have HGD:=hid (HG.out.later hxD)
     repeat' (first
      | ((first | refine walksB_move rfl rfl ?_ | refine walksB_assign rfl rfl ?_ | refine walksB_skip rfl rfl ?_);simp only [Act.put,Act.eval,evs])
      | (refine walksB_unwanted rfl rfl ?_;simp only [Act.put,evp])
      | (refine walksB_read (v:=?_) rfl rfl (fun w' hE=>?_) ?_;rotate_left 1;(· ((try (have hEx:=Below.trans (Hid.out XB) hE));go_simp;(try go_bits);with_reducible rfl));simp only [Act.put,evp])
      | (refine walksB_main rfl rfl (fun K hK=>?_);(first | (refine wp_load_cell 9 (.tmp 42) rfl ⟨g,dn.length,none⟩ rfl (.string (str cur)) HC.out Tryz.isAgg9 ?_) | (refine store_str_wp (.tmp 49) (.tmp 48) rfl g dn.length _ cap rfl (str cur ++ str [x]) rfl _ HGD.out hn.out.symm (by rw [hn.out];omega) ?_;intro w6 hg6 hb6;have HG6:=hid hg6;clear hg6;have XB':=hid (Below.trans (Hid.out XB) (hb6));clear XB;have XB:=XB';clear XB'));refine hK _ _ (by first | assumption | exact Below.refl _ _ | exact Below.mono (Ext.alloc _ _) (Hid.out HSW) | exact Below.setCell (p:=⟨_,_,_⟩) (Below.refl _ _) (Nat.le_refl _) _) ?_;clear hK K;try simp only [Act.put,evp])
      | (refine walksB_alt ?_ ?_)
      | (refine walksB_main rfl rfl (fun K hK=>?_);go_wp2_with (fail);refine hK _ _ (by first | assumption | exact Below.refl _ _ | exact Below.mono (Ext.alloc _ _) (Hid.out HSW) | exact Below.setCell (p:=⟨_,_,_⟩) (Below.refl _ _) (Nat.le_refl _) _) ?_;clear hK K;try simp only [Act.put,evp]))
     refine walksB_done ?_
     have HG7 : Hid (GrowS w w6 (.slice (some ⟨g,0,none⟩) (dn.length + 1) cap) (strs dn ++ [str (cur ++ [x])])):=by
      have h:=HG6.out
      rw [str_app,set_last' (by simp)] at h
      exact h
     clear HG6 HC HGD
     go_wp2
     exact ⟨⟨j + 1,dn,cur ++ [x],by omega,by go_num,by omega,by simp;omega,HG7,HH⟩,by simp [intOf];omega⟩
  ·obtain rfl : j = s.size:=by omega
   have HH : Hid (strs (splitF sep [] (bys s)) = strs dn ++ [str cur]):=by
    show _ = _
    rw [← HR.out,show (bys s).drop s.size = [] from List.drop_eq_nil_of_le (by rw [bys_len];omega)]
    simp [splitF]
   go_wp2
   go_ret
   refine ⟨_,rfl,?_⟩
   rw [HH.out]
   exact HG.out
theorem rsplit_any (s : ByteArray) (sep : UInt8) (hsep : sep ≠ 92) (w : World) (hs : s.size ≤ 4000000) :
 Calls Tryz.prog 70 #[.string s,.int .u8 (sep.toNat : Int)] w fun e w'=>∃ v,e = .returned v ∧ GrowS w w' v (strs (splitF sep [] (bys s))):=by
 have Hs:=hid hs
 have HSP:=hid hsep
 clear hsep
 go_enter Tryz.func70,Tryz.ntmps70
 go_wp2
 go_loopw [5,6,7] (fun v f i wr=>∃ (j k : Nat) (dn : List (List UInt8)) (cur : List UInt8),j ≤ s.size + 1 ∧ i = .int .i64 j ∧ f = .int .i64 k ∧ k ≤ s.size ∧ (j ≤ s.size → k ≤ j) ∧ dn.length ≤ j ∧ Hid (GrowS w wr v (strs dn)) ∧ Hid (j ≤ s.size → s.extract k j = str cur ∧ dn ++ splitF sep cur ((bys s).drop j) = splitF sep [] (bys s)) ∧ Hid (s.size < j → dn ++ [bys (s.extract k s.size)] = splitF sep [] (bys s))) (fun _ _ i _=>s.size + 1 - (intOf i).toNat)
 case atStart=>exact ⟨0,0,[],[],by omega,rfl,rfl,by omega,by omega,by simp,GrowS.nil (Ext.refl _),fun _=>⟨piece_ext (s:=s) (p:=[]) (r:=bys s) (by simp) rfl,by simp⟩,fun h=>absurd h (by omega)⟩
 case round=>
  obtain ⟨j,k,dn,cur,hj,rfl,rfl,hk,hkj,hdn,HG,HR,HE⟩:=hrel
  by_cases hlt : j < s.size
  ·obtain ⟨hpc,hR⟩:=HR.out (by omega)
   have HPC:=hid hpc
   have HRR:=hid hR
   have hkj':=hkj (by omega)
   obtain ⟨x,hx⟩ : ∃ x,(bys s)[j]? = some x:=⟨_,List.getElem?_eq_getElem (by rw [bys_len];exact hlt)⟩
   have gx:=bys_get hx hlt
   have hd : Hid ((bys s).drop j = x :: (bys s).drop (j + 1)):=by
    show _ = _
    obtain ⟨h1,h2⟩:=List.getElem?_eq_some_iff.1 hx
    rw [List.drop_eq_getElem_cons h1,h2]
   have hgrow : ∀ (p : List UInt8) (r : List UInt8) (m : Nat),(bys s).drop j = p ++ r → m = j + p.length → s.extract k m = str (cur ++ p):=by
    intro p r m h1 h2
    have h3 : (bys s).drop k = cur ++ (bys s).drop j:=by
     have h4 : bys (s.extract k j) = cur:=by rw [hpc,bys_str]
     rw [bys_ext] at h4
     have h5:=List.take_append_drop (j - k) ((bys s).drop k)
     rw [h4,List.drop_drop] at h5
     rw [← h5]
     congr 2
     omega
    have hl : cur.length = j - k:=by
     have h4 : bys (s.extract k j) = cur:=by rw [hpc,bys_str]
     rw [← h4,bys_ext,List.length_take,List.length_drop,bys_len]
     omega
    exact piece_ext (r:=r) (by rw [h3,h1,List.append_assoc]) (by rw [List.length_append,hl];omega)
   have HGW:=hid hgrow
   clear hx hpc hR hkj hgrow
   by_cases h92 : x = 92
   ·have t2 : ((x.toNat : Int) == 92) = true:=byte_is (k:=92) (by decide) h92
    have hfin : Hid ((j + 2 ≤ s.size → ∃ cur',s.extract k (j + 2) = str cur' ∧ dn ++ splitF sep cur' ((bys s).drop (j + 2)) = splitF sep [] (bys s)) ∧ (s.size < j + 2 → dn ++ [bys (s.extract k s.size)] = splitF sep [] (bys s))):=by
     constructor
     ·intro hl
      obtain ⟨y,hy⟩ : ∃ y,(bys s)[j + 1]? = some y:=⟨_,List.getElem?_eq_getElem (by rw [bys_len];omega)⟩
      have hd2 : (bys s).drop (j + 1) = y :: (bys s).drop (j + 2):=by
       obtain ⟨h1,h2⟩:=List.getElem?_eq_some_iff.1 hy
       rw [List.drop_eq_getElem_cons h1,h2]
      refine ⟨cur ++ [x,y],HGW.out [x,y] ((bys s).drop (j + 2)) (j + 2) (by rw [hd.out,hd2];rfl) rfl,?_⟩
      rw [← HRR.out,hd.out,hd2,h92,splitF_esc HSP.out]
     ·intro hl
      have hnil : (bys s).drop (j + 1) = []:=List.drop_eq_nil_of_le (by rw [bys_len];omega)
      rw [HGW.out [x] [] s.size (by rw [hd.out,hnil];rfl) (by simp;omega),bys_str,← HRR.out,hd.out,hnil,h92,splitF_esc1 HSP.out]
    clear h92
    go_wp2
    refine ⟨⟨j + 2,k,dn,(bys (s.extract k (j + 2))),by omega,by go_num,rfl,hk,by omega,by omega,HG,?_,?_⟩,by simp [intOf];omega⟩
    ·intro hl
     obtain ⟨c',h1,h2⟩:=hfin.out.1 hl
     rw [h1,bys_str]
     exact ⟨rfl,h2⟩
    ·exact fun hl=>hfin.out.2 hl
   ·have t2 : ((x.toNat : Int) == 92) = false:=byte_isnt (k:=92) h92
    by_cases hxs : x = sep
    ·have t1:=eq_byte hxs
     have hp:=HPC.out
     have z3 : (j : Int) ≤ (s.size : Int):=by omega
     have z4 : (k : Int) ≤ (j : Int):=by omega
     have HH : Hid ((dn ++ [cur]) ++ splitF sep [] ((bys s).drop (j + 1)) = splitF sep [] (bys s)):=by show _ = _;rw [← HRR.out,hd.out,splitF_sep hxs];simp
     clear hxs h92
     go_wp2_with (at_builtin;refine append_str1 rfl _ _ rfl _ _ rfl HG.out rfl (by simp;omega) ?_;intro v' w3 hg3;have HG3:=hid hg3;clear hg3)
     refine ⟨⟨j + 1,j + 1,dn ++ [cur],[],by omega,by go_num,by go_num,by omega,by omega,by simp;omega,?_,fun _=>⟨piece_ext (p:=[]) (r:=(bys s).drop (j + 1)) rfl rfl,HH⟩,fun h=>absurd h (by omega)⟩,by simp [intOf];omega⟩
     rw [show strs (dn ++ [cur]) = strs dn ++ [str cur] by simp]
     exact HG3
    ·have t1:=ne_byte hxs
     have HH : Hid (dn ++ splitF sep (cur ++ [x]) ((bys s).drop (j + 1)) = splitF sep [] (bys s)):=by show _ = _;rw [← HRR.out,hd.out,splitF_any hxs h92]
     have HP : Hid (s.extract k (j + 1) = str (cur ++ [x])):=HGW.out [x] ((bys s).drop (j + 1)) (j + 1) hd.out rfl
     clear hxs h92
     go_wp2
     exact ⟨⟨j + 1,k,dn,cur ++ [x],by omega,by go_num,rfl,hk,by omega,by omega,HG,fun _=>⟨HP,HH⟩,fun h=>absurd h (by omega)⟩,by simp [intOf];omega⟩
  ·have HF : Hid (dn ++ [bys (s.extract k s.size)] = splitF sep [] (bys s)):=by
    rcases Nat.lt_or_ge s.size j with h | h
    ·exact HE.out h
    ·obtain rfl : j = s.size:=by omega
     obtain ⟨h1,h2⟩:=HR.out (Nat.le_refl _)
     rw [h1,bys_str]
     show _ = _
     rw [← h2,show (bys s).drop s.size = [] from List.drop_eq_nil_of_le (by rw [bys_len];omega)]
     simp [splitF]
   have z4 : (k : Int) ≤ (s.size : Int):=by omega
   have HD:=hid hdn
   clear HE HR hkj
   go_wp2_with (at_builtin;refine append_str1 rfl _ _ rfl _ _ rfl HG.out rfl (by have:=HD.out;simp;omega) ?_;intro v' w3 hg3;have HG3:=hid hg3;clear hg3)
   go_ret
   refine ⟨_,rfl,?_⟩
   rw [← HF.out,show strs (dn ++ [bys (s.extract k s.size)]) = strs dn ++ [s.extract k s.size] by simp [str_bys]]
   exact HG3.out
theorem specB_z (x : UInt8) : specB x = (((x.toNat : Int) == 44) || ((x.toNat : Int) == 43) || ((x.toNat : Int) == 34) || ((x.toNat : Int) == 92) || ((x.toNat : Int) == 60) || ((x.toNat : Int) == 62) || ((x.toNat : Int) == 59)):=by
 obtain ⟨n,rfl⟩ : ∃ n : Fin 256,x = UInt8.ofFin n:=⟨x.toFin,rfl⟩
 revert n
 decide +kernel
theorem special_any (x : UInt8) (w : World) : Calls Tryz.prog 102 #[.int .u8 (x.toNat : Int)] w fun e w'=>e = .returned (.bool (specB x)) ∧ w = w':=by
 have HS:=hid (specB_z x)
 generalize (x.toNat : Int) = z at *
 go_enter Tryz.func102,Tryz.ntmps102
 go_wp2
 all_goals go_ret
 all_goals exact ⟨by rw [HS.out];simp [*],rfl⟩
def hexZ (x : UInt8) : Int:=match hexB x with | some a=>(a : Int) | none=>-1
theorem hexZ_z (x : UInt8) : hexZ x = if 48 ≤ (x.toNat : Int) ∧ (x.toNat : Int) ≤ 57 then (x.toNat : Int) - 48 else if 97 ≤ (x.toNat : Int) ∧ (x.toNat : Int) ≤ 102 then (x.toNat : Int) - 97 + 10 else if 65 ≤ (x.toNat : Int) ∧ (x.toNat : Int) ≤ 70 then (x.toNat : Int) - 65 + 10 else -1:=by
 obtain ⟨n,rfl⟩ : ∃ n : Fin 256,x = UInt8.ofFin n:=⟨x.toFin,rfl⟩
 revert n
 decide +kernel
theorem hexz_any (x : UInt8) (w : World) : Calls Tryz.prog 151 #[.int .u8 (x.toNat : Int)] w fun e w'=>e = .returned (.int .i64 (hexZ x)) ∧ w = w':=by
 have hx1 : (x.toNat : Int) < 256:=by have:=x.toNat_lt;omega
 have hx0 : 0 ≤ (x.toNat : Int):=by omega
 have HS:=hid (hexZ_z x)
 generalize (x.toNat : Int) = z at *
 by_cases h1 : 48 ≤ z
 ·by_cases h2 : z ≤ 57
  ·have HF : Hid (hexZ x = z - 48):=by show _ = _;rw [HS.out,if_pos ⟨h1,h2⟩]
   go_enter Tryz.func151,Tryz.ntmps151
   go_wp2
   go_ret
   exact ⟨by rw [HF.out];rfl,rfl⟩
  ·by_cases h3 : 97 ≤ z
   ·by_cases h4 : z ≤ 102
    ·have HF : Hid (hexZ x = z - 97 + 10):=by show _ = _;rw [HS.out,if_neg (by omega),if_pos ⟨h3,h4⟩]
     go_enter Tryz.func151,Tryz.ntmps151
     go_wp2
     go_ret
     exact ⟨by rw [HF.out];rfl,rfl⟩
    ·have HF : Hid (hexZ x = -1):=by show _ = _;rw [HS.out,if_neg (by omega),if_neg (by omega),if_neg (by omega)]
     have h5 : 65 ≤ z:=by omega
     have h6 : ¬ z ≤ 70:=by omega
     go_enter Tryz.func151,Tryz.ntmps151
     go_wp2
     go_ret
     exact ⟨by rw [HF.out];rfl,rfl⟩
   ·by_cases h5 : 65 ≤ z
    ·by_cases h6 : z ≤ 70
     ·have HF : Hid (hexZ x = z - 65 + 10):=by show _ = _;rw [HS.out,if_neg (by omega),if_neg (by omega),if_pos ⟨h5,h6⟩]
      go_enter Tryz.func151,Tryz.ntmps151
      go_wp2
      go_ret
      exact ⟨by rw [HF.out];rfl,rfl⟩
     ·have HF : Hid (hexZ x = -1):=by show _ = _;rw [HS.out,if_neg (by omega),if_neg (by omega),if_neg (by omega)]
      go_enter Tryz.func151,Tryz.ntmps151
      go_wp2
      go_ret
      exact ⟨by rw [HF.out];rfl,rfl⟩
    ·have HF : Hid (hexZ x = -1):=by show _ = _;rw [HS.out,if_neg (by omega),if_neg (by omega),if_neg (by omega)]
     go_enter Tryz.func151,Tryz.ntmps151
     go_wp2
     go_ret
     exact ⟨by rw [HF.out];rfl,rfl⟩
 ·have h3 : ¬ 97 ≤ z:=by omega
  have h5 : ¬ 65 ≤ z:=by omega
  have HF : Hid (hexZ x = -1):=by show _ = _;rw [HS.out,if_neg (by omega),if_neg (by omega),if_neg (by omega)]
  go_enter Tryz.func151,Tryz.ntmps151
  go_wp2
  go_ret
  exact ⟨by rw [HF.out];rfl,rfl⟩
theorem hexZ_idx (x : UInt8) : Lib.indexByte [48,49,50,51,52,53,54,55,56,57,97,98,99,100,101,102] (loB x) = hexZ x:=by
 obtain ⟨n,rfl⟩ : ∃ n : Fin 256,x = UInt8.ofFin n:=⟨x.toFin,rfl⟩
 revert n
 decide +kernel
theorem digit_any (x : UInt8) (w : World) : Calls Tryz.prog 147 #[.int .u8 (x.toNat : Int)] w fun e w'=>e = .returned (.int .i64 (hexZ x)) ∧ Ext w w':=by
 have hC:=(sl_char w x).conv _ (Ext.refl _)
 have hz : 0 < (str (lowerB [x])).size:=Nat.one_pos
 have g0 : (str (lowerB [x]))[0]'hz = loB x:=rfl
 go_enter Tryz.func147,Tryz.ntmps147
 go_wp2_with (first
  | (go_at_call 75;(with_reducible refine (lower_any (str [x]) _ (by simp [maxLen,str_size])).mono ?_);rintro e w1 ⟨he,hx1⟩;rw [bys_str] at he;subst he;have HX1:=hid hx1;clear hx1)
  | (go_at_call 125;(with_reducible refine (indexbyte_at _ _ (loB x) (u8_back _) (hexZ x) (hexZ_idx x) _).mono ?_);rintro e w2 ⟨rfl,rfl⟩))
 go_ret
 exact ⟨rfl,(Ext.alloc _ _).trans HX1.out⟩
theorem readF_plain {acc t : List UInt8} {c : UInt8} (h : c ≠ 92) : readF acc (c :: t) = if (c == 0 || specB c || (c == 32 && t.isEmpty)) = true then none else readF (acc ++ [c]) t:=by
 conv=>lhs;unfold readF
 rw [if_neg h]
theorem readF_end (acc : List UInt8) : readF acc [92] = none:=by unfold readF;rw [if_pos rfl]
def spec2 (d : UInt8) : Bool:=specB d || d == 35 || d == 61 || d == 32
theorem readF_spec {acc t : List UInt8} {d : UInt8} (h : spec2 d = true) : readF acc (92 :: d :: t) = readF (acc ++ [d]) t:=by
 conv=>lhs;unfold readF
 rw [if_pos rfl]
 exact if_pos h
theorem readF_hex1 {acc : List UInt8} {d : UInt8} (h : spec2 d = false) : readF acc [92,d] = none:=by
 conv=>lhs;unfold readF
 rw [if_pos rfl]
 exact if_neg (by rw [show (specB d || d == 35 || d == 61 || d == 32) = spec2 d from rfl,h];decide)
theorem readF_hex {acc t : List UInt8} {d e : UInt8} (h : spec2 d = false) : readF acc (92 :: d :: e :: t) = match hexB d,hexB e with | some a,some b=>readF (acc ++ [UInt8.ofNat (16 * a + b)]) t | _,_=>none:=by
 conv=>lhs;unfold readF
 rw [if_pos rfl]
 exact if_neg (by rw [show (specB d || d == 35 || d == 61 || d == 32) = spec2 d from rfl,h];decide)
theorem hexZ_neg {x : UInt8} (h : hexZ x < 0) : hexB x = none:=by
 unfold hexZ at h
 cases hb : hexB x with
 | none=>rfl
 | some a=>rw [hb] at h;simp at h;omega
theorem hexB_lt {x : UInt8} {a : Nat} (h : hexB x = some a) : a < 16:=by
 unfold hexB at h
 split at h
 ·injection h;omega
 ·split at h
  ·injection h;omega
  ·split at h
   ·injection h;omega
   ·cases h
theorem hexZ_pos {x : UInt8} (h : ¬ hexZ x < 0) : ∃ a : Nat,hexB x = some a ∧ hexZ x = a ∧ a < 16:=by
 unfold hexZ at h ⊢
 cases hb : hexB x with
 | none=>rw [hb] at h;simp at h
 | some a=>exact ⟨a,rfl,rfl,hexB_lt hb⟩
theorem hex_or : ∀ a < 16,∀ b < 16,bits BinOp.or IntKind.i64 ((16 * a : Nat) : Int) ((b : Nat) : Int) = ((16 * a + b : Nat) : Int):=by decide +kernel
theorem mem_spec : ∀ x : UInt8,specB x = true ↔ x ∈ ([44,43,34,92,60,62,59] : List UInt8):=by
 intro x
 obtain ⟨n,rfl⟩ : ∃ n : Fin 256,x = UInt8.ofFin n:=⟨x.toFin,rfl⟩
 revert n
 decide +kernel
theorem mem_spec2 : ∀ x : UInt8,spec2 x = true ↔ x ∈ ([44,43,34,92,60,62,59,35,61,32] : List UInt8):=by
 intro x
 obtain ⟨n,rfl⟩ : ∃ n : Fin 256,x = UInt8.ofFin n:=⟨x.toFin,rfl⟩
 revert n
 decide +kernel
def ValSays (w : World) (r : Option (List UInt8)) (e : Ending) (w' : World) : Prop:=e = .returned (.tuple #[.string (str (r.getD [])),.bool r.isSome]) ∧ Ext w w'
theorem drop_at {s : ByteArray} {j : Nat} {x : UInt8} (h : (bys s)[j]? = some x) : (bys s).drop j = x :: (bys s).drop (j + 1):=by
 obtain ⟨h1,h2⟩:=List.getElem?_eq_some_iff.1 h
 rw [List.drop_eq_getElem_cons h1,h2]
theorem at_some {s : ByteArray} {j : Nat} (h : j < s.size) : ∃ x,(bys s)[j]? = some x:=⟨_,List.getElem?_eq_getElem (by rw [bys_len];exact h)⟩
theorem drop_none {s : ByteArray} {j : Nat} (h : s.size ≤ j) : (bys s).drop j = []:=List.drop_eq_nil_of_le (by rw [bys_len];exact h)
end Go.Proofs.YtahahafhendgoaaGreatDoor
