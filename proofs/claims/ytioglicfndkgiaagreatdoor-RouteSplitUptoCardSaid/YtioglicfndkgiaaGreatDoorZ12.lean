/- Lemmas of the walk. -/
import Derived.Test.YtioglicfndkgiaaGreatDoorZ10
import Derived.Test.YtioglicfndkgiaaGreatDoorZ08
import Derived.Test.YtioglicfndkgiaaGreatDoorZ11
set_option maxHeartbeats 40000000
set_option linter.unusedVariables false
set_option linter.unusedSimpArgs false
namespace Go.Proofs.YtioglicfndkgiaaGreatDoor
open Go.RowKit
set_option maxRecDepth 100000
theorem zis {sep c:UInt8} {cur t:List UInt8} (h:c=sep):splitF sep cur (c::t)=cur::splitF sep [] t:=by conv=>lhs;unfold splitF;rw [if_pos h]
theorem zhG {sep:UInt8} {cur:List UInt8} (h:sep≠92):splitF sep cur [92]=[cur++[92]]:=by unfold splitF;rw [if_neg (fun e=>h e.symm),if_pos rfl]
theorem ziP {sep d:UInt8} {cur t:List UInt8} (h:sep≠92):splitF sep cur (92::d::t)=splitF sep (cur++[92,d]) t:=by rw [splitF,if_neg (fun e=>h e.symm),if_pos rfl]
theorem ziF {sep c:UInt8} {cur t:List UInt8} (h:¬ c=sep) (k:¬ c=92):splitF sep cur (c::t)=splitF sep (cur++[c]) t:=by conv=>lhs;unfold splitF;rw [if_neg h,if_neg k]
theorem zqT {l:List ByteArray} {x y:ByteArray}:(l++[x]).set l.length y=l++[y]:=by rw [List.set_append_right _ _ (Nat.le_refl _)];simp
theorem zhV {l:List ByteArray} {n:Nat} {x y:ByteArray} (h:n=l.length):(l++[x]).set n y=l++[y]:=by rw [h];exact zqT
theorem zeu (s:ByteArray) (a b:Nat):bys (s.extract a b)=((bys s).drop a).take (b-a):=Lib.extract_data s a b
theorem znB (w:World) (y:ByteArray):GrowS w (w.alloc (.cells #[.string y] 9)) (.slice (some ⟨w.heap.size,0,none⟩) 1 1) [y]:=
 ⟨⟨rfl,.inr ⟨w.heap.size,1,#[.string y],rfl,Nat.le_refl _,heap_alloc_new w _,Nat.le_refl _,by simp [maxLen],rfl,rfl⟩⟩,Ext.alloc _ _⟩
theorem zo5 {a b:UInt8} (h:¬ a=b):((a.toNat:Int)==(b.toNat:Int))=false:=by
 rw [beq_eq_false_iff_ne]
 intro e
 exact h (UInt8.toNat_inj.1 (by omega))
theorem zoU {a b:UInt8} (h:a=b):((a.toNat:Int)==(b.toNat:Int))=true:=by rw [h];exact beq_self_eq_true _
theorem zdI {s:ByteArray} {j k:Nat} {p:List UInt8} {r:List UInt8} (h:(bys s).drop j=p++r) (hk:k=j+p.length):s.extract j k=str p:=by
 rw [← zaN (s.extract j k),zeu,h]
 subst hk
 rw [Nat.add_sub_cancel_left,List.take_left]
theorem zj1 (s:ByteArray) (sep:UInt8) (hsep:sep≠92) (w:World) (hs:s.size≤4000000) :
 Calls Tryz.prog 103 #[.string s,.int .u8 (sep.toNat:Int)] w fun e w'=>∃ v,e=.returned v∧GrowS w w' v (strs (splitF sep [] (bys s))):=by
 have Hs:=hid hs
 have HSP:=hid hsep
 have tsep:((sep.toNat:Int) != 92)=true:=by
  have h:((sep.toNat:Int)==92)=false:=zau (k:=92) hsep
  rw [bne,h];rfl
 clear hsep
 go_enter Tryz.func103,Tryz.ntmps103
 go_wp2
 go_loopw [5,6] (fun v i wr=>∃ (j:Nat) (dn:List (List UInt8)) (cur:List UInt8),j≤s.size∧i=.int .i64 j∧dn.length≤j∧cur.length≤j∧Hid (GrowS w wr v (strs dn++[str cur]))∧Hid (dn++splitF sep cur ((bys s).drop j)=splitF sep [] (bys s))) (fun _ i _=>s.size-(intOf i).toNat)
 case atStart=>exact ⟨0,[],[],by omega,rfl,by simp,by simp,znB w _,by simp [Hid]⟩
 case round=>
  obtain ⟨j,dn,cur,hj,rfl,hdn,hcur,HG,HR⟩:=hrel
  have hn:Hid ((strs dn++[str cur]).length=dn.length+1):=by show _=_;simp
  obtain ⟨g,cap,rfl,hg1,hg2,hg3,hg4⟩:=HG.out.form (by rw [hn.out];omega)
  have hc:=hg4 dn.length (by rw [hn.out];omega)
  have hcv:(strs dn++[str cur])[dn.length]?.getD ByteArray.empty=str cur:=by
   have:dn.length=(strs dn).length:=by simp
   rw [this,List.getElem?_append_right (Nat.le_refl _)]
   simp
  rw [hcv] at hc
  have hcap:Hid (dn.length+1≤cap∧cap≤maxLen):=by show _∧_;rw [hn.out] at hg2;exact ⟨hg2,hg3⟩
  rw [hn.out] at HG
  rw [hn.out]
  clear hg2 hg3 hg4 hcv
  by_cases hlt:j<s.size
  ·obtain ⟨x,hx⟩:∃ x,(bys s)[j]?=some x:=⟨_,List.getElem?_eq_getElem (by rw [zaf];exact hlt)⟩
   have gx:=za0 hx hlt
   have hd:Hid ((bys s).drop j=x::(bys s).drop (j+1)):=by
    show _=_
    obtain ⟨h1,h2⟩:=List.getElem?_eq_some_iff.1 hx
    rw [List.drop_eq_getElem_cons h1,h2]
   clear hx
   by_cases hxs:x=sep
   ·have t1:=zoU hxs
    have HH:Hid ((dn++[cur])++splitF sep [] ((bys s).drop (j+1))=splitF sep [] (bys s)):=by show _=_;rw [← HR.out,hd.out,zis hxs];simp
    clear hxs
    go_wp2_with (at_builtin;refine zct rfl _ _ rfl _ _ rfl HG.out rfl (by rw [hn.out];omega) ?_;intro v' w3 hg3;have HG3:=hid hg3;clear hg3)
    exact ⟨⟨j+1,dn++[cur],[],by omega,by go_num,by simp;omega,by simp,by rw [show strs (dn++[cur])=strs dn++[str cur] by simp];exact HG3,HH⟩,by simp [intOf];omega⟩
   ·have t1:=zo5 hxs
    by_cases h92:x=92
    ·have t2:((x.toNat:Int)==92)=true:=za6 (k:=92) (by decide) h92
     by_cases hl:j+1<s.size
     ·obtain ⟨y,hy⟩:∃ y,(bys s)[j+1]?=some y:=⟨_,List.getElem?_eq_getElem (by rw [zaf];exact hl)⟩
      have hd2:(bys s).drop (j+1)=y::(bys s).drop (j+1+1):=by
       obtain ⟨h1,h2⟩:=List.getElem?_eq_some_iff.1 hy
       rw [List.drop_eq_getElem_cons h1,h2]
      have hp:s.extract j (j+2)=str [x,y]:=zdI (r:=(bys s).drop (j+2)) (by rw [hd.out,hd2];rfl) rfl
      have HH:Hid (dn++splitF sep (cur++[x,y]) ((bys s).drop (j+2))=splitF sep [] (bys s)):=by show _=_;rw [← HR.out,hd.out,hd2,h92,ziP HSP.out]
      have z1:¬ 9223372036854775807<cur.length+2:=by omega
      have z2:min ((j:Int)+2) (s.size:Int)=(j:Int)+2:=by omega
      have z3:(j:Int)+2≤(s.size:Int):=by omega
      have z4:(j:Int)≤(j:Int)+2:=by omega
      have z5:((j:Int)+2).toNat=j+2:=by omega
      clear hxs h92 hd2 hy
      have zl:(dn.length:Int)<(dn.length:Int)+1:=by omega
      go_wp2
      refine zaq w.heap.size (.read 0 (.read 1 (.read 2 (.read 3 (.read 4 (.read 6 (.read 7 (.read 8 (.read 9 (.main 5 (.read 10 (.read 11 (.main 12 .done))))))))))))) (by kernel_rfl) (by kernel_rfl) ?_
      intro wD hxD
      have XB:Hid (Below w.heap.size wD wD):=Below.refl _ _
      have HC:=hid (zaa hc _ hxD)
      have HGD:=hid (HG.out.later hxD)
      repeat' (first
       | ((first | refine zaI rfl rfl ?_ | refine zaw rfl rfl ?_ | refine walksB_skip rfl rfl ?_);simp only [Act.put,Act.eval,evs])
       | (refine walksB_unwanted rfl rfl ?_;simp only [Act.put,evp])
       | (refine zaC (v:=?_) rfl rfl (fun w' hE=>?_) ?_;rotate_left 1;(· ((try (have hEx:=Below.trans (Hid.out XB) hE));go_simp;(try go_bits);with_reducible rfl));simp only [Act.put,evp])
       | (refine zam rfl rfl (fun K hK=>?_);(first | (refine zbQ 9 (.tmp 42) rfl ⟨g,dn.length,none⟩ rfl (.string (str cur)) HC.out Tryz.isAgg9 ?_) | (refine zet (.tmp 49) (.tmp 48) rfl g dn.length _ cap rfl (str cur++str [x,y]) rfl _ HGD.out hn.out.symm (by rw [hn.out];omega) ?_;intro w6 hg6 hb6;have HG6:=hid hg6;clear hg6;have XB':=hid (Below.trans (Hid.out XB) (hb6));clear XB;have XB:=XB';clear XB'));refine hK _ _ (by first | assumption | exact Below.refl _ _ | exact Below.mono (Ext.alloc _ _) (Hid.out HSW) | exact Below.setCell (p:=⟨_,_,_⟩) (Below.refl _ _) (Nat.le_refl _) _) ?_;clear hK K;try simp only [Act.put,evp])
       | (refine zaQ ?_ ?_)
       | (refine zam rfl rfl (fun K hK=>?_);go_wp2_with (fail);refine hK _ _ (by first | assumption | exact Below.refl _ _ | exact Below.mono (Ext.alloc _ _) (Hid.out HSW) | exact Below.setCell (p:=⟨_,_,_⟩) (Below.refl _ _) (Nat.le_refl _) _) ?_;clear hK K;try simp only [Act.put,evp]))
      refine zaH ?_
      have HG7:Hid (GrowS w w6 (.slice (some ⟨g,0,none⟩) (dn.length+1) cap) (strs dn++[str (cur++[x,y])])):=by
       have h:=HG6.out
       rw [zbg,zhV (by simp)] at h
       exact h
      clear HG6 HC HGD
      go_wp2
      exact ⟨⟨j+2,dn,cur++[x,y],by omega,by go_num,by omega,by simp;omega,HG7,HH⟩,by simp [intOf];omega⟩
     ·have hnil:(bys s).drop (j+1)=[]:=List.drop_eq_nil_of_le (by rw [zaf];omega)
      have hp:s.extract j s.size=str [x]:=zdI (r:=(bys s).drop (j+1)) hd.out (by simp;omega)
      have HH:Hid (dn++splitF sep (cur++[x]) ((bys s).drop (j+1))=splitF sep [] (bys s)):=by show _=_;rw [← HR.out,hd.out,hnil,h92,zhG HSP.out];rfl
      have z1:¬ 9223372036854775807<cur.length+1:=by omega
      have z2:min ((j:Int)+2) (s.size:Int)=(s.size:Int):=by omega
      clear hxs h92 hnil
      have zl:(dn.length:Int)<(dn.length:Int)+1:=by omega
      go_wp2
      refine zaq w.heap.size (.read 0 (.read 1 (.read 2 (.read 3 (.read 4 (.read 6 (.read 7 (.read 8 (.read 9 (.main 5 (.read 10 (.read 11 (.main 12 .done))))))))))))) (by kernel_rfl) (by kernel_rfl) ?_
      intro wD hxD
      have XB:Hid (Below w.heap.size wD wD):=Below.refl _ _
      have HC:=hid (zaa hc _ hxD)
      have HGD:=hid (HG.out.later hxD)
      repeat' (first
       | ((first | refine zaI rfl rfl ?_ | refine zaw rfl rfl ?_ | refine walksB_skip rfl rfl ?_);simp only [Act.put,Act.eval,evs])
       | (refine walksB_unwanted rfl rfl ?_;simp only [Act.put,evp])
       | (refine zaC (v:=?_) rfl rfl (fun w' hE=>?_) ?_;rotate_left 1;(· ((try (have hEx:=Below.trans (Hid.out XB) hE));go_simp;(try go_bits);with_reducible rfl));simp only [Act.put,evp])
       | (refine zam rfl rfl (fun K hK=>?_);(first | (refine zbQ 9 (.tmp 42) rfl ⟨g,dn.length,none⟩ rfl (.string (str cur)) HC.out Tryz.isAgg9 ?_) | (refine zet (.tmp 49) (.tmp 48) rfl g dn.length _ cap rfl (str cur++str [x]) rfl _ HGD.out hn.out.symm (by rw [hn.out];omega) ?_;intro w6 hg6 hb6;have HG6:=hid hg6;clear hg6;have XB':=hid (Below.trans (Hid.out XB) (hb6));clear XB;have XB:=XB';clear XB'));refine hK _ _ (by first | assumption | exact Below.refl _ _ | exact Below.mono (Ext.alloc _ _) (Hid.out HSW) | exact Below.setCell (p:=⟨_,_,_⟩) (Below.refl _ _) (Nat.le_refl _) _) ?_;clear hK K;try simp only [Act.put,evp])
       | (refine zaQ ?_ ?_)
       | (refine zam rfl rfl (fun K hK=>?_);go_wp2_with (fail);refine hK _ _ (by first | assumption | exact Below.refl _ _ | exact Below.mono (Ext.alloc _ _) (Hid.out HSW) | exact Below.setCell (p:=⟨_,_,_⟩) (Below.refl _ _) (Nat.le_refl _) _) ?_;clear hK K;try simp only [Act.put,evp]))
      refine zaH ?_
      have HG7:Hid (GrowS w w6 (.slice (some ⟨g,0,none⟩) (dn.length+1) cap) (strs dn++[str (cur++[x])])):=by
       have h:=HG6.out
       rw [zbg,zhV (by simp)] at h
       exact h
      clear HG6 HC HGD
      go_wp2
      exact ⟨⟨j+1,dn,cur++[x],by omega,by go_num,by omega,by simp;omega,HG7,HH⟩,by simp [intOf];omega⟩
    ·have t2:((x.toNat:Int)==92)=false:=zau (k:=92) h92
     have hp:s.extract j (j+1)=str [x]:=zdI (r:=(bys s).drop (j+1)) hd.out rfl
     have HH:Hid (dn++splitF sep (cur++[x]) ((bys s).drop (j+1))=splitF sep [] (bys s)):=by show _=_;rw [← HR.out,hd.out,ziF hxs h92]
     have z1:¬ 9223372036854775807<cur.length+1:=by omega
     have z3:(j:Int)+1≤(s.size:Int):=by omega
     have z4:(j:Int)≤(j:Int)+1:=by omega
     have z5:((j:Int)+1).toNat=j+1:=by omega
     clear hxs h92
     have zl:(dn.length:Int)<(dn.length:Int)+1:=by omega
     go_wp2
     refine zaq w.heap.size (.read 0 (.read 1 (.read 2 (.read 3 (.read 4 (.read 6 (.read 7 (.read 8 (.read 9 (.main 5 (.read 10 (.read 11 (.main 12 .done))))))))))))) (by kernel_rfl) (by kernel_rfl) ?_
     intro wD hxD
     have XB:Hid (Below w.heap.size wD wD):=Below.refl _ _
     have HC:=hid (zaa hc _ hxD)
     have HGD:=hid (HG.out.later hxD)
     repeat' (first
      | ((first | refine zaI rfl rfl ?_ | refine zaw rfl rfl ?_ | refine walksB_skip rfl rfl ?_);simp only [Act.put,Act.eval,evs])
      | (refine walksB_unwanted rfl rfl ?_;simp only [Act.put,evp])
      | (refine zaC (v:=?_) rfl rfl (fun w' hE=>?_) ?_;rotate_left 1;(· ((try (have hEx:=Below.trans (Hid.out XB) hE));go_simp;(try go_bits);with_reducible rfl));simp only [Act.put,evp])
      | (refine zam rfl rfl (fun K hK=>?_);(first | (refine zbQ 9 (.tmp 42) rfl ⟨g,dn.length,none⟩ rfl (.string (str cur)) HC.out Tryz.isAgg9 ?_) | (refine zet (.tmp 49) (.tmp 48) rfl g dn.length _ cap rfl (str cur++str [x]) rfl _ HGD.out hn.out.symm (by rw [hn.out];omega) ?_;intro w6 hg6 hb6;have HG6:=hid hg6;clear hg6;have XB':=hid (Below.trans (Hid.out XB) (hb6));clear XB;have XB:=XB';clear XB'));refine hK _ _ (by first | assumption | exact Below.refl _ _ | exact Below.mono (Ext.alloc _ _) (Hid.out HSW) | exact Below.setCell (p:=⟨_,_,_⟩) (Below.refl _ _) (Nat.le_refl _) _) ?_;clear hK K;try simp only [Act.put,evp])
      | (refine zaQ ?_ ?_)
      | (refine zam rfl rfl (fun K hK=>?_);go_wp2_with (fail);refine hK _ _ (by first | assumption | exact Below.refl _ _ | exact Below.mono (Ext.alloc _ _) (Hid.out HSW) | exact Below.setCell (p:=⟨_,_,_⟩) (Below.refl _ _) (Nat.le_refl _) _) ?_;clear hK K;try simp only [Act.put,evp]))
     refine zaH ?_
     have HG7:Hid (GrowS w w6 (.slice (some ⟨g,0,none⟩) (dn.length+1) cap) (strs dn++[str (cur++[x])])):=by
      have h:=HG6.out
      rw [zbg,zhV (by simp)] at h
      exact h
     clear HG6 HC HGD
     go_wp2
     exact ⟨⟨j+1,dn,cur++[x],by omega,by go_num,by omega,by simp;omega,HG7,HH⟩,by simp [intOf];omega⟩
  ·obtain rfl:j=s.size:=by omega
   have HH:Hid (strs (splitF sep [] (bys s))=strs dn++[str cur]):=by
    show _=_
    rw [← HR.out,show (bys s).drop s.size=[] from List.drop_eq_nil_of_le (by rw [zaf];omega)]
    simp [splitF]
   go_wp2
   go_ret
   refine ⟨_,rfl,?_⟩
   rw [HH.out]
   exact HG.out
theorem ziJ (s:ByteArray) (sep:UInt8) (hsep:sep≠92) (w:World) (hs:s.size≤4000000) :
 Calls Tryz.prog 114 #[.string s,.int .u8 (sep.toNat:Int)] w fun e w'=>∃ v,e=.returned v∧GrowS w w' v (strs (splitF sep [] (bys s))):=by
 have Hs:=hid hs
 have HSP:=hid hsep
 clear hsep
 go_enter Tryz.func114,Tryz.ntmps114
 go_wp2
 go_loopw [5,6,7] (fun v f i wr=>∃ (j k:Nat) (dn:List (List UInt8)) (cur:List UInt8),j≤s.size+1∧i=.int .i64 j∧f=.int .i64 k∧k≤s.size∧(j≤s.size→k≤j)∧dn.length≤j∧Hid (GrowS w wr v (strs dn))∧Hid (j≤s.size→s.extract k j=str cur∧dn++splitF sep cur ((bys s).drop j)=splitF sep [] (bys s))∧Hid (s.size<j→dn++[bys (s.extract k s.size)]=splitF sep [] (bys s))) (fun _ _ i _=>s.size+1-(intOf i).toNat)
 case atStart=>exact ⟨0,0,[],[],by omega,rfl,rfl,by omega,by omega,by simp,GrowS.nil (Ext.refl _),fun _=>⟨zdI (s:=s) (p:=[]) (r:=bys s) (by simp) rfl,by simp⟩,fun h=>absurd h (by omega)⟩
 case round=>
  obtain ⟨j,k,dn,cur,hj,rfl,rfl,hk,hkj,hdn,HG,HR,HE⟩:=hrel
  by_cases hlt:j<s.size
  ·obtain ⟨hpc,hR⟩:=HR.out (by omega)
   have HPC:=hid hpc
   have HRR:=hid hR
   have hkj':=hkj (by omega)
   obtain ⟨x,hx⟩:∃ x,(bys s)[j]?=some x:=⟨_,List.getElem?_eq_getElem (by rw [zaf];exact hlt)⟩
   have gx:=za0 hx hlt
   have hd:Hid ((bys s).drop j=x::(bys s).drop (j+1)):=by
    show _=_
    obtain ⟨h1,h2⟩:=List.getElem?_eq_some_iff.1 hx
    rw [List.drop_eq_getElem_cons h1,h2]
   have hgrow:∀ (p:List UInt8) (r:List UInt8) (m:Nat),(bys s).drop j=p++r→m=j+p.length→s.extract k m=str (cur++p):=by
    intro p r m h1 h2
    have h3:(bys s).drop k=cur++(bys s).drop j:=by
     have h4:bys (s.extract k j)=cur:=by rw [hpc,zao]
     rw [zeu] at h4
     have h5:=List.take_append_drop (j-k) ((bys s).drop k)
     rw [h4,List.drop_drop] at h5
     rw [← h5]
     congr 2
     omega
    have hl:cur.length=j-k:=by
     have h4:bys (s.extract k j)=cur:=by rw [hpc,zao]
     rw [← h4,zeu,List.length_take,List.length_drop,zaf]
     omega
    exact zdI (r:=r) (by rw [h3,h1,List.append_assoc]) (by rw [List.length_append,hl];omega)
   have HGW:=hid hgrow
   clear hx hpc hR hkj hgrow
   by_cases h92:x=92
   ·have t2:((x.toNat:Int)==92)=true:=za6 (k:=92) (by decide) h92
    have hfin:Hid ((j+2≤s.size→∃ cur',s.extract k (j+2)=str cur'∧dn++splitF sep cur' ((bys s).drop (j+2))=splitF sep [] (bys s))∧(s.size<j+2→dn++[bys (s.extract k s.size)]=splitF sep [] (bys s))):=by
     constructor
     ·intro hl
      obtain ⟨y,hy⟩:∃ y,(bys s)[j+1]?=some y:=⟨_,List.getElem?_eq_getElem (by rw [zaf];omega)⟩
      have hd2:(bys s).drop (j+1)=y::(bys s).drop (j+2):=by
       obtain ⟨h1,h2⟩:=List.getElem?_eq_some_iff.1 hy
       rw [List.drop_eq_getElem_cons h1,h2]
      refine ⟨cur++[x,y],HGW.out [x,y] ((bys s).drop (j+2)) (j+2) (by rw [hd.out,hd2];rfl) rfl,?_⟩
      rw [← HRR.out,hd.out,hd2,h92,ziP HSP.out]
     ·intro hl
      have hnil:(bys s).drop (j+1)=[]:=List.drop_eq_nil_of_le (by rw [zaf];omega)
      rw [HGW.out [x] [] s.size (by rw [hd.out,hnil];rfl) (by simp;omega),zao,← HRR.out,hd.out,hnil,h92,zhG HSP.out]
    clear h92
    go_wp2
    refine ⟨⟨j+2,k,dn,(bys (s.extract k (j+2))),by omega,by go_num,rfl,hk,by omega,by omega,HG,?_,?_⟩,by simp [intOf];omega⟩
    ·intro hl
     obtain ⟨c',h1,h2⟩:=hfin.out.1 hl
     rw [h1,zao]
     exact ⟨rfl,h2⟩
    ·exact fun hl=>hfin.out.2 hl
   ·have t2:((x.toNat:Int)==92)=false:=zau (k:=92) h92
    by_cases hxs:x=sep
    ·have t1:=zoU hxs
     have hp:=HPC.out
     have z3:(j:Int)≤(s.size:Int):=by omega
     have z4:(k:Int)≤(j:Int):=by omega
     have HH:Hid ((dn++[cur])++splitF sep [] ((bys s).drop (j+1))=splitF sep [] (bys s)):=by show _=_;rw [← HRR.out,hd.out,zis hxs];simp
     clear hxs h92
     go_wp2_with (at_builtin;refine zct rfl _ _ rfl _ _ rfl HG.out rfl (by simp;omega) ?_;intro v' w3 hg3;have HG3:=hid hg3;clear hg3)
     refine ⟨⟨j+1,j+1,dn++[cur],[],by omega,by go_num,by go_num,by omega,by omega,by simp;omega,?_,fun _=>⟨zdI (p:=[]) (r:=(bys s).drop (j+1)) rfl rfl,HH⟩,fun h=>absurd h (by omega)⟩,by simp [intOf];omega⟩
     rw [show strs (dn++[cur])=strs dn++[str cur] by simp]
     exact HG3
    ·have t1:=zo5 hxs
     have HH:Hid (dn++splitF sep (cur++[x]) ((bys s).drop (j+1))=splitF sep [] (bys s)):=by show _=_;rw [← HRR.out,hd.out,ziF hxs h92]
     have HP:Hid (s.extract k (j+1)=str (cur++[x])):=HGW.out [x] ((bys s).drop (j+1)) (j+1) hd.out rfl
     clear hxs h92
     go_wp2
     exact ⟨⟨j+1,k,dn,cur++[x],by omega,by go_num,rfl,hk,by omega,by omega,HG,fun _=>⟨HP,HH⟩,fun h=>absurd h (by omega)⟩,by simp [intOf];omega⟩
  ·have HF:Hid (dn++[bys (s.extract k s.size)]=splitF sep [] (bys s)):=by
    rcases Nat.lt_or_ge s.size j with h | h
    ·exact HE.out h
    ·obtain rfl:j=s.size:=by omega
     obtain ⟨h1,h2⟩:=HR.out (Nat.le_refl _)
     rw [h1,zao]
     show _=_
     rw [← h2,show (bys s).drop s.size=[] from List.drop_eq_nil_of_le (by rw [zaf];omega)]
     simp [splitF]
   have z4:(k:Int)≤(s.size:Int):=by omega
   have HD:=hid hdn
   clear HE HR hkj
   go_wp2_with (at_builtin;refine zct rfl _ _ rfl _ _ rfl HG.out rfl (by have:=HD.out;simp;omega) ?_;intro v' w3 hg3;have HG3:=hid hg3;clear hg3)
   go_ret
   refine ⟨_,rfl,?_⟩
   rw [← HF.out,show strs (dn++[bys (s.extract k s.size)])=strs dn++[s.extract k s.size] by simp [zaN]]
   exact HG3.out
theorem zsA (x:UInt8):zbs x=(((x.toNat:Int)==44) || ((x.toNat:Int)==43) || ((x.toNat:Int)==34) || ((x.toNat:Int)==92) || ((x.toNat:Int)==60) || ((x.toNat:Int)==62) || ((x.toNat:Int)==59)):=by
 obtain ⟨n,rfl⟩:∃ n:Fin 256,x=UInt8.ofFin n:=⟨x.toFin,rfl⟩
 revert n
 decide +kernel
theorem za5 (x:UInt8) (w:World):Calls Tryz.prog 147 #[.int .u8 (x.toNat:Int)] w fun e w'=>e=.returned (.bool (zbs x))∧w=w':=by
 have HS:=hid (zsA x)
 generalize (x.toNat:Int)=z at *
 go_enter Tryz.func147,Tryz.ntmps147
 go_wp2
 all_goals go_ret
 all_goals exact ⟨by rw [HS.out];simp [*],rfl⟩
def hexZ (x:UInt8):Int:=match hexB x with | some a=>(a:Int) | none=>-1
theorem zsZ (x:UInt8):hexZ x=if 48≤(x.toNat:Int)∧(x.toNat:Int)≤57 then (x.toNat:Int)-48 else if 97≤(x.toNat:Int)∧(x.toNat:Int)≤102 then (x.toNat:Int)-97+10 else if 65≤(x.toNat:Int)∧(x.toNat:Int)≤70 then (x.toNat:Int)-65+10 else -1:=by
 obtain ⟨n,rfl⟩:∃ n:Fin 256,x=UInt8.ofFin n:=⟨x.toFin,rfl⟩
 revert n
 decide +kernel
theorem zd2 (x:UInt8) (w:World):Calls Tryz.prog 183 #[.int .u8 (x.toNat:Int)] w fun e w'=>e=.returned (.int .i64 (hexZ x))∧w=w':=by
 have hx1:(x.toNat:Int)<256:=by have:=x.toNat_lt;omega
 have hx0:0≤(x.toNat:Int):=by omega
 have HS:=hid (zsZ x)
 generalize (x.toNat:Int)=z at *
 by_cases h1:48≤z
 ·by_cases h2:z≤57
  ·have HF:Hid (hexZ x=z-48):=by show _=_;rw [HS.out,if_pos ⟨h1,h2⟩]
   go_enter Tryz.func183,Tryz.ntmps183
   go_wp2
   go_ret
   exact ⟨by rw [HF.out];rfl,rfl⟩
  ·by_cases h3:97≤z
   ·by_cases h4:z≤102
    ·have HF:Hid (hexZ x=z-97+10):=by show _=_;rw [HS.out,if_neg (by omega),if_pos ⟨h3,h4⟩]
     go_enter Tryz.func183,Tryz.ntmps183
     go_wp2
     go_ret
     exact ⟨by rw [HF.out];rfl,rfl⟩
    ·have HF:Hid (hexZ x = -1):=by show _=_;rw [HS.out,if_neg (by omega),if_neg (by omega),if_neg (by omega)]
     have h5:65≤z:=by omega
     have h6:¬ z≤70:=by omega
     go_enter Tryz.func183,Tryz.ntmps183
     go_wp2
     go_ret
     exact ⟨by rw [HF.out];rfl,rfl⟩
   ·by_cases h5:65≤z
    ·by_cases h6:z≤70
     ·have HF:Hid (hexZ x=z-65+10):=by show _=_;rw [HS.out,if_neg (by omega),if_neg (by omega),if_pos ⟨h5,h6⟩]
      go_enter Tryz.func183,Tryz.ntmps183
      go_wp2
      go_ret
      exact ⟨by rw [HF.out];rfl,rfl⟩
     ·have HF:Hid (hexZ x = -1):=by show _=_;rw [HS.out,if_neg (by omega),if_neg (by omega),if_neg (by omega)]
      go_enter Tryz.func183,Tryz.ntmps183
      go_wp2
      go_ret
      exact ⟨by rw [HF.out];rfl,rfl⟩
    ·have HF:Hid (hexZ x = -1):=by show _=_;rw [HS.out,if_neg (by omega),if_neg (by omega),if_neg (by omega)]
     go_enter Tryz.func183,Tryz.ntmps183
     go_wp2
     go_ret
     exact ⟨by rw [HF.out];rfl,rfl⟩
 ·have h3:¬ 97≤z:=by omega
  have h5:¬ 65≤z:=by omega
  have HF:Hid (hexZ x = -1):=by show _=_;rw [HS.out,if_neg (by omega),if_neg (by omega),if_neg (by omega)]
  go_enter Tryz.func183,Tryz.ntmps183
  go_wp2
  go_ret
  exact ⟨by rw [HF.out];rfl,rfl⟩
theorem zqr (x:UInt8):Lib.indexByte [48,49,50,51,52,53,54,55,56,57,97,98,99,100,101,102] (loB x)=hexZ x:=by
 obtain ⟨n,rfl⟩:∃ n:Fin 256,x=UInt8.ofFin n:=⟨x.toFin,rfl⟩
 revert n
 decide +kernel
theorem zbp (x:UInt8) (w:World):Calls Tryz.prog 161 #[.int .u8 (x.toNat:Int)] w fun e w'=>e=.returned (.int .i64 (hexZ x))∧Ext w w':=by
 have hC:=(zdS w x).conv _ (Ext.refl _)
 have hz:0<(str (zat [x])).size:=Nat.one_pos
 have g0:(str (zat [x]))[0]'hz=loB x:=rfl
 go_enter Tryz.func161,Tryz.ntmps161
 go_wp2_with (first
  | (go_at_call 91;(with_reducible refine (zdJ (str [x]) _ (by simp [maxLen,zaL])).mono ?_);rintro e w1 ⟨he,hx1⟩;rw [zao] at he;subst he;have HX1:=hid hx1;clear hx1)
  | (go_at_call 139;(with_reducible refine (zkx _ _ (loB x) (zbu _) (hexZ x) (zqr x) _).mono ?_);rintro e w2 ⟨rfl,rfl⟩))
 go_ret
 exact ⟨rfl,(Ext.alloc _ _).trans HX1.out⟩
theorem zfk {acc t:List UInt8} {c:UInt8} (h:c≠92):readF acc (c::t)=if (c==0 || zbs c || (c==32 && t.isEmpty))=true then none else readF (acc++[c]) t:=by
 conv=>lhs;unfold readF
 rw [if_neg h]
theorem zhY (acc:List UInt8):readF acc [92]=none:=by unfold readF;rw [if_pos rfl]
def zia (d:UInt8):Bool:=zbs d || d==35 || d==61 || d==32
theorem zgt {acc t:List UInt8} {d:UInt8} (h:zia d=true):readF acc (92::d::t)=readF (acc++[d]) t:=by
 conv=>lhs;unfold readF
 rw [if_pos rfl]
 exact if_pos h
theorem zgf {acc:List UInt8} {d:UInt8} (h:zia d=false):readF acc [92,d]=none:=by
 conv=>lhs;unfold readF
 rw [if_pos rfl]
 exact if_neg (by rw [show (zbs d || d==35 || d==61 || d==32)=zia d from rfl,h];decide)
theorem zg7 {acc t:List UInt8} {d e:UInt8} (h:zia d=false):readF acc (92::d::e::t)=match hexB d,hexB e with | some a,some b=>readF (acc++[UInt8.ofNat (16 * a+b)]) t | _,_=>none:=by
 conv=>lhs;unfold readF
 rw [if_pos rfl]
 exact if_neg (by rw [show (zbs d || d==35 || d==61 || d==32)=zia d from rfl,h];decide)
theorem zeO {x:UInt8} (h:hexZ x<0):hexB x=none:=by
 unfold hexZ at h
 cases hb:hexB x with
 | none=>rfl
 | some a=>rw [hb] at h;simp at h;omega
theorem zrM {x:UInt8} {a:Nat} (h:hexB x=some a):a<16:=by
 unfold hexB at h
 split at h
 ·injection h;omega
 ·split at h
  ·injection h;omega
  ·split at h
   ·injection h;omega
   ·cases h
theorem zeK {x:UInt8} (h:¬ hexZ x<0):∃ a:Nat,hexB x=some a∧hexZ x=a∧a<16:=by
 unfold hexZ at h ⊢
 cases hb:hexB x with
 | none=>rw [hb] at h;simp at h
 | some a=>exact ⟨a,rfl,rfl,zrM hb⟩
theorem zrE:∀ a<16,∀ b<16,bits BinOp.or IntKind.i64 ((16 * a:Nat):Int) ((b:Nat):Int)=((16 * a+b:Nat):Int):=by decide +kernel
theorem zeI:∀ x:UInt8,zbs x=true ↔ x∈([44,43,34,92,60,62,59]:List UInt8):=by
 intro x
 obtain ⟨n,rfl⟩:∃ n:Fin 256,x=UInt8.ofFin n:=⟨x.toFin,rfl⟩
 revert n
 decide +kernel
theorem zfS:∀ x:UInt8,zia x=true ↔ x∈([44,43,34,92,60,62,59,35,61,32]:List UInt8):=by
 intro x
 obtain ⟨n,rfl⟩:∃ n:Fin 256,x=UInt8.ofFin n:=⟨x.toFin,rfl⟩
 revert n
 decide +kernel
def zgs (w:World) (r:Option (List UInt8)) (e:Ending) (w':World):Prop:=e=.returned (.tuple #[.string (str (r.getD [])),.bool r.isSome])∧Ext w w'
theorem zc0 {s:ByteArray} {j:Nat} {x:UInt8} (h:(bys s)[j]?=some x):(bys s).drop j=x::(bys s).drop (j+1):=by
 obtain ⟨h1,h2⟩:=List.getElem?_eq_some_iff.1 h
 rw [List.drop_eq_getElem_cons h1,h2]
theorem zcq {s:ByteArray} {j:Nat} (h:j<s.size):∃ x,(bys s)[j]?=some x:=⟨_,List.getElem?_eq_getElem (by rw [zaf];exact h)⟩
theorem zbT {s:ByteArray} {j:Nat} (h:s.size≤j):(bys s).drop j=[]:=List.drop_eq_nil_of_le (by rw [zaf];exact h)
def zcG (v:List UInt8):Nat→Nat
 | 0=>0
 | i+1=>if 1≤i∧(v[i]?=some 43∨v[i]?=some 45) then i else zcG v i
theorem zmM (v:List UInt8):∀ i,0<i→zcG v i<i
 | 0,h=>by omega
 | 1,_=>by simp [zcG]
 | i+2,_=>by
  have:=zmM v (i+1) (by omega)
  unfold zcG
  split <;> omega
def atR (v:List UInt8):Nat:=if v.getLast?=some 105 then zcG v v.length else v.length
def secR (b:List UInt8):Option Int:=if b=[]∨b=[43] then some 1 else if b=[45] then some (-1) else numR b
def zea (a b:Option Int) (v:List UInt8):Option (Int × Int):=
 match a,b with
 | some a,some b=>if zaF a b=true∧zaX a b=v then some (a,b) else none
 | _,_=>none
def za1 (v:List UInt8):Option (Int × Int):=
 zea (if 0<atR v then numR (v.take (atR v)) else some 0) (if atR v<v.length then secR ((v.take (v.length-1)).drop (atR v)) else some 0) v
def zks (w:World) (v:List UInt8) (e:Ending) (w':World):Prop:=
 e=.returned (.tuple #[.agg #[.int .i64 ((za1 v).getD (0,0)).1,.int .i64 ((za1 v).getD (0,0)).2],.int .i64 (if (za1 v).isSome then 0 else 2)])∧Ext w w'
theorem zjf {s1:ByteArray} (h:s1.size≤4000000) (hn:numR (bys s1)=none):∀ w,Calls Tryz.prog 143 #[.string s1] w fun e w'=>e=.returned (.tuple #[.int .i64 0,.bool false])∧Ext w w':=fun w=>by
 have:=ziy s1 w h
 unfold zlI at this
 rw [hn] at this
 exact this
theorem zji {s1:ByteArray} {a:Int} (h:s1.size≤4000000) (hn:numR (bys s1)=some a):∀ w,Calls Tryz.prog 143 #[.string s1] w fun e w'=>e=.returned (.tuple #[.int .i64 a,.bool true])∧Ext w w':=fun w=>by
 have:=ziy s1 w h
 unfold zlI at this
 rw [hn] at this
 exact this
theorem zbG {s:ByteArray} {a b:Int} (h:za1 (bys s)=zea (some a) (some b) (bys s)) :
 (zaF a b=false∧Hid (za1 (bys s)=none))∨(zaF a b=true∧(zaX a b==s.toList)=true∧Hid (za1 (bys s)=some (a,b)))∨(zaF a b=true∧(zaX a b==s.toList)=false∧Hid (za1 (bys s)=none)):=by
 cases hwi:zaF a b with
 | false=>exact .inl ⟨rfl,by show _=_;rw [h];unfold zea;simp [hwi]⟩
 | true=>
  by_cases htx:zaX a b=bys s
  ·exact .inr (.inl ⟨rfl,by rw [ByteArray.toList_eq,beq_iff_eq];exact htx,by show _=_;rw [h];unfold zea;simp [hwi,htx]⟩)
  ·exact .inr (.inr ⟨rfl,by rw [ByteArray.toList_eq,beq_eq_false_iff_ne];exact htx,by show _=_;rw [h];unfold zea;simp [hwi,htx]⟩)
theorem znL (s:ByteArray) (w:World) (hG:Gl w) (hs:s.size≤4000000):Calls Tryz.prog 113 #[.string s] w (zks w (bys s)):=by
 have Hs:=hid hs
 have HG:=hid hG
 by_cases h0:s.size=0
 ·have HPL:Hid (za1 (bys s)=zea (some 0) (some 0) (bys s)):=by rw [zbt h0];rfl
  have HAB:Hid ((-1000000000≤(0:Int)∧(0:Int)≤1000000000)∧(-1000000000≤(0:Int)∧(0:Int)≤1000000000)):=⟨by omega,by omega⟩
  have t0:¬ 0<(s.size:Int):=by omega
  clear h0 hs hG
  obtain ⟨hwi,HF⟩ | ⟨hwi,te,HF⟩ | ⟨hwi,te,HF⟩:=zbG HPL.out
  all_goals try exact absurd hwi (by decide)
  all_goals
   have HWI:=hid hwi
   clear hwi
   go_enter Tryz.func113,Tryz.ntmps113
   go_wp2_with (first
    | (go_at_call 143;(with_reducible refine (HC1 _).mono ?_);rintro e w1 ⟨rfl,hx1⟩;obtain ⟨hr,hp⟩:=zav hx1;have HR:=hid (hr.aside (Nat.le_succ _) (by omega) 0 (.int .i64 0) (k:=w.heap.size+1));have HP:=hid (hp.set0 (.int .i64 0));obtain ⟨c0,c1,f0,f1,r0,r1,g0,g1⟩:=hp.eight hr;clear hx1 hr hp)
    | (go_at_call 143;(with_reducible refine (HC2 _).mono ?_);rintro e w2 ⟨rfl,hx2⟩;(try clear c0 c1 f0 f1 r0 r1 g0 g1);have hr:=HR.out.later hx2;have hp:=HP.out.later hx2;clear HR HP;have HR:=hid (hr.aside (Nat.le_succ _) (by omega) 1 (.int .i64 0) (k:=w.heap.size+1));have HP:=hid (hp.set1 (.int .i64 0));obtain ⟨c0,c1,f0,f1,r0,r1,g0,g1⟩:=hp.eight hr;clear hx2 hr hp)
    | (go_at_call 144;(with_reducible refine (zbH 0 0 _).mono ?_);rintro e w3 ⟨he,hx3⟩;rw [HWI.out] at he;subst he;(try clear c0 c1 f0 f1 r0 r1 g0 g1);have hr:Bx w w3 w.heap.size 170 #[.int .i64 0,.int .i64 0]:=(by first | exact HR.out.later hx3 | exact (HR.out.aside (k:=w.heap.size+1) (Nat.le_succ _) (by omega) 1 _).later hx3 | exact (zav hx3).1);have hp:Bx w w3 (w.heap.size+1) 170 #[.int .i64 0,.int .i64 0]:=(by first | exact HP.out.later hx3 | exact (HP.out.set1 _).later hx3 | exact (zav hx3).2);(try clear HR HP);have HR:=hid hr;have HP:=hid hp;obtain ⟨c0,c1,f0,f1,r0,r1,g0,g1⟩:=hp.eight hr;clear hx3 hr hp)
    | (go_at_call 145;(with_reducible refine (zbf 0 0 _ (HG.out.ext HP.out.ext) HAB.out.1 HAB.out.2).mono ?_);rintro e w4 ⟨rfl,hx4⟩;(try clear c0 c1 f0 f1 r0 r1 g0 g1);have hr:=HR.out.later hx4;have hp:=HP.out.later hx4;clear HR HP;have HR:=hid hr;have HP:=hid hp;obtain ⟨c0,c1,f0,f1,r0,r1,g0,g1⟩:=hp.eight hr;clear hx4 hr hp)
    )
   (try simp only [Exit.inBlock,Exit.then])
   refine zas _ rfl rfl ((HR.out.set0 _).set1 _) Tryz.underlying170 rfl (by kernel_rfl) rfl ?_
   exact ⟨by rw [HF.out];rfl,(HP.out.ext.setCell (Nat.le_refl _) _).setCell (Nat.le_refl _) _⟩
 ·have t0:0<(s.size:Int):=by omega
  obtain ⟨y,hy⟩:∃ y,(bys s)[s.size-1]?=some y:=⟨_,List.getElem?_eq_getElem (by rw [zaf];omega)⟩
  have hsz:s.size-1<s.size:=by omega
  have gy:=za0 hy hsz
  have HL:Hid ((bys s).getLast?=some y):=by show _=_;rw [List.getLast?_eq_getElem?,zaf,hy]
  have z1:((s.size:Int)-1).toNat=s.size-1:=by omega
  have z2:0≤(s.size:Int)-1:=by omega
  clear hy
  by_cases h105:y=105
  ·have ty:((y.toNat:Int)==105)=true:=za6 (k:=105) (by decide) h105
   have HA:Hid (atR (bys s)=zcG (bys s) s.size):=by show _=_;unfold atR;rw [HL.out,if_pos (by rw [h105]),zaf]
   clear h105 hG
   go_enter Tryz.func113,Tryz.ntmps113
   go_wp2
   go_loop [4,5] (fun v i=>∃ j:Nat,1≤j∧j≤s.size∧i=.int .i64 j∧v=.int .i64 (zcG (bys s) j:Int)) (fun _ i=>s.size-(intOf i).toNat)
   case atStart=>exact ⟨1,by omega,by omega,rfl,rfl⟩
   case round=>
    obtain ⟨j,hj1,hj,rfl,rfl⟩:=hrel
    by_cases hlt:j<s.size
    ·obtain ⟨x,hx⟩:=zcq hlt
     have gx:=za0 hx hlt
     by_cases hc:x=43∨x=45
     ·have HH:Hid (zcG (bys s) (j+1)=j):=by
       show _=_
       unfold zcG
       rw [if_pos ⟨hj1,by rw [hx];exact hc.imp (fun h=>by rw [h]) (fun h=>by rw [h])⟩]
      have tc:((x.toNat:Int)==43)=true∨(((x.toNat:Int)==43)=false∧((x.toNat:Int)==45)=true):=by
       rcases hc with rfl | rfl
       ·exact .inl rfl
       ·exact .inr ⟨rfl,rfl⟩
      clear hx hc
      rcases tc with q1 | ⟨q1,q2⟩
      all_goals
       go_wp2
       exact ⟨⟨j+1,by omega,by omega,by go_num,by rw [HH.out]⟩,by simp [intOf];omega⟩
     ·have HH:Hid (zcG (bys s) (j+1)=zcG (bys s) j):=by
       show _=_
       conv=>lhs;unfold zcG
       rw [if_neg]
       rintro ⟨-,h⟩
       rw [hx] at h
       exact hc (h.imp (fun h=>by injection h) (fun h=>by injection h))
      have q1:((x.toNat:Int)==43)=false:=zau (k:=43) (fun e=>hc (.inl e))
      have q2:((x.toNat:Int)==45)=false:=zau (k:=45) (fun e=>hc (.inr e))
      clear hx hc
      go_wp2
      exact ⟨⟨j+1,by omega,by omega,by go_num,by rw [HH.out]⟩,by simp [intOf];omega⟩
    ·obtain rfl:j=s.size:=by omega
     have hkl:=zmM (bys s) s.size (by omega)
     have HPQ:Hid (za1 (bys s)=zea (if 0<zcG (bys s) s.size then numR ((bys s).take (zcG (bys s) s.size)) else some 0) (secR (((bys s).take (s.size-1)).drop (zcG (bys s) s.size))) (bys s)):=by
      show _=_
      unfold za1
      rw [HA.out,if_pos (show zcG (bys s) s.size<(bys s).length by rw [zaf];exact hkl),zaf]
     clear HA
     generalize zcG (bys s) s.size=k at *
     obtain ⟨m,hm⟩:∃ m,m=((bys s).take (s.size-1)).drop k:=⟨_,rfl⟩
     have hs2:s.extract k (s.size-1)=str m:=by
      rw [hm,← zaN (s.extract k (s.size-1)),zeu,List.drop_take]
     have HZ2:Hid ((str m).size≤4000000):=by
      show _≤_
      rw [hm,zaL,List.length_drop,List.length_take,zaf]
      have:=Hs.out
      omega
     rw [← hm] at HPQ
     clear hm
     have z3:(k:Int)<(s.size:Int):=by omega
     have z4:(k:Int)≤(s.size:Int)-1:=by omega
     have z5:(s.size:Int)-1≤(s.size:Int):=by omega
     have z6:(k:Int)≤(s.size:Int):=by omega
     have HS:Hid (∀ b,secR m=some b→-1000000000≤b∧b≤1000000000):=by
      intro b hb
      unfold secR at hb
      split at hb
      ·injection hb;omega
      ·split at hb
       ·injection hb;omega
       ·have:=zgc hb;omega
     have HM:Hid (secR m=if m=[]∨m=[43] then some 1 else if m=[45] then some (-1) else numR m):=rfl
     have HN2:=zjf HZ2.out
     have HO2:=fun b=>zji (a:=b) HZ2.out
     rw [zao] at HN2
     simp only [zao] at HO2
     have HN2:=hid HN2
     have HO2:=hid HO2
     by_cases hk0:0<k
     ·have tk:0<(k:Int):=by omega
      obtain ⟨m1,hm1⟩:∃ m1,m1=(bys s).take k:=⟨_,rfl⟩
      have hs1:s.extract 0 k=str m1:=by rw [hm1,← zaN (s.extract 0 k),zeu];rfl
      have HZ1:Hid ((str m1).size≤4000000):=by
       show _≤_
       rw [hm1,zaL,List.length_take,zaf]
       have:=Hs.out
       omega
      rw [if_pos hk0,← hm1] at HPQ
      clear hm1 hk0
      cases hn:numR m1 with
      | none=>
       have HF:Hid (za1 (bys s)=none):=by show _=_;rw [HPQ.out,hn];rfl
       have HC1:=zjf HZ1.out (by rw [zao,hn])
       clear hn
       go_wp2_with (first
        | (go_at_call 143;(with_reducible refine (HC1 _).mono ?_);rintro e w1 ⟨rfl,hx1⟩;obtain ⟨hr,hp⟩:=zav hx1;have HR:=hid (hr.aside (Nat.le_succ _) (by omega) 0 (.int .i64 0) (k:=w.heap.size+1));have HP:=hid (hp.set0 (.int .i64 0));obtain ⟨c0,c1,f0,f1,r0,r1,g0,g1⟩:=hp.eight hr;clear hx1 hr hp)
        | (go_at_call 143;(with_reducible refine (HC2 _).mono ?_);rintro e w2 ⟨rfl,hx2⟩;(try clear c0 c1 f0 f1 r0 r1 g0 g1);have hr:=HR.out.later hx2;have hp:=HP.out.later hx2;clear HR HP;have HR:=hid (hr.aside (Nat.le_succ _) (by omega) 1 (.int .i64 0) (k:=w.heap.size+1));have HP:=hid (hp.set1 (.int .i64 0));obtain ⟨c0,c1,f0,f1,r0,r1,g0,g1⟩:=hp.eight hr;clear hx2 hr hp)
        )
       (try simp only [Exit.inBlock,Exit.then])
       refine zas _ rfl rfl ((HR.out.set0 (.int .i64 0)).set1 (.int .i64 0)) Tryz.underlying170 rfl (by kernel_rfl) rfl ?_
       exact ⟨by rw [HF.out];rfl,(HP.out.ext.setCell (Nat.le_refl _) _).setCell (Nat.le_refl _) _⟩
      | some a=>
       have hsm:=zgc hn
       have HC1:=zji HZ1.out (by rw [zao,hn])
       have HAa:Hid (-1000000000≤a∧a≤1000000000):=⟨by omega,by omega⟩
       rw [hn] at HPQ
       clear hn hsm
       by_cases hb0:m=[]
       ·have b0:(m == [])=true:=by rw [hb0];rfl
        have HPL:Hid (za1 (bys s)=zea (some (a)) (some (1)) (bys s)):=by show _=_;rw [HPQ.out,HM.out];rw [if_pos (.inl hb0)]
        have HAB:Hid ((-1000000000≤(a:Int)∧(a:Int)≤1000000000)∧(-1000000000≤(1:Int)∧(1:Int)≤1000000000)):=⟨HAa.out,by omega⟩
        obtain ⟨hwi,HF⟩ | ⟨hwi,te,HF⟩ | ⟨hwi,te,HF⟩:=zbG HPL.out
        all_goals try exact absurd hwi (by decide)
        all_goals
         have HWI:=hid hwi
         clear hwi
         clear hb0
         go_wp2_with (first
          | (go_at_call 143;(with_reducible refine (HC1 _).mono ?_);rintro e w1 ⟨rfl,hx1⟩;obtain ⟨hr,hp⟩:=zav hx1;have HR:=hid (hr.aside (Nat.le_succ _) (by omega) 0 (.int .i64 a) (k:=w.heap.size+1));have HP:=hid (hp.set0 (.int .i64 a));obtain ⟨c0,c1,f0,f1,r0,r1,g0,g1⟩:=hp.eight hr;clear hx1 hr hp)
          | (go_at_call 143;(with_reducible refine (HC2 _).mono ?_);rintro e w2 ⟨rfl,hx2⟩;(try clear c0 c1 f0 f1 r0 r1 g0 g1);have hr:=HR.out.later hx2;have hp:=HP.out.later hx2;clear HR HP;have HR:=hid (hr.aside (Nat.le_succ _) (by omega) 1 (.int .i64 (1)) (k:=w.heap.size+1));have HP:=hid (hp.set1 (.int .i64 (1)));obtain ⟨c0,c1,f0,f1,r0,r1,g0,g1⟩:=hp.eight hr;clear hx2 hr hp)
          | (go_at_call 144;(with_reducible refine (zbH a (1) _).mono ?_);rintro e w3 ⟨he,hx3⟩;rw [HWI.out] at he;subst he;(try clear c0 c1 f0 f1 r0 r1 g0 g1);have hr:Bx w w3 w.heap.size 170 #[.int .i64 0,.int .i64 0]:=(by first | exact HR.out.later hx3 | exact (HR.out.aside (k:=w.heap.size+1) (Nat.le_succ _) (by omega) 1 _).later hx3 | exact (zav hx3).1);have hp:Bx w w3 (w.heap.size+1) 170 #[.int .i64 a,.int .i64 (1)]:=(by first | exact HP.out.later hx3 | exact (HP.out.set1 _).later hx3 | exact (zav hx3).2);(try clear HR HP);have HR:=hid hr;have HP:=hid hp;obtain ⟨c0,c1,f0,f1,r0,r1,g0,g1⟩:=hp.eight hr;clear hx3 hr hp)
          | (go_at_call 145;(with_reducible refine (zbf a (1) _ (HG.out.ext HP.out.ext) HAB.out.1 HAB.out.2).mono ?_);rintro e w4 ⟨rfl,hx4⟩;(try clear c0 c1 f0 f1 r0 r1 g0 g1);have hr:=HR.out.later hx4;have hp:=HP.out.later hx4;clear HR HP;have HR:=hid hr;have HP:=hid hp;obtain ⟨c0,c1,f0,f1,r0,r1,g0,g1⟩:=hp.eight hr;clear hx4 hr hp)
          )
         (try simp only [Exit.inBlock,Exit.then])
         refine zas _ rfl rfl ((HR.out.set0 _).set1 _) Tryz.underlying170 rfl (by kernel_rfl) rfl ?_
         exact ⟨by rw [HF.out];rfl,(HP.out.ext.setCell (Nat.le_refl _) _).setCell (Nat.le_refl _) _⟩
       ·have b0:(m == [])=false:=by rw [beq_eq_false_iff_ne];exact hb0
        by_cases hb1:m=[43]
        ·have b1:(m == [43])=true:=by rw [hb1];rfl
         have HPL:Hid (za1 (bys s)=zea (some (a)) (some (1)) (bys s)):=by show _=_;rw [HPQ.out,HM.out];rw [if_pos (.inr hb1)]
         have HAB:Hid ((-1000000000≤(a:Int)∧(a:Int)≤1000000000)∧(-1000000000≤(1:Int)∧(1:Int)≤1000000000)):=⟨HAa.out,by omega⟩
         obtain ⟨hwi,HF⟩ | ⟨hwi,te,HF⟩ | ⟨hwi,te,HF⟩:=zbG HPL.out
         all_goals try exact absurd hwi (by decide)
         all_goals
          have HWI:=hid hwi
          clear hwi
          clear hb0 hb1
          go_wp2_with (first
           | (go_at_call 143;(with_reducible refine (HC1 _).mono ?_);rintro e w1 ⟨rfl,hx1⟩;obtain ⟨hr,hp⟩:=zav hx1;have HR:=hid (hr.aside (Nat.le_succ _) (by omega) 0 (.int .i64 a) (k:=w.heap.size+1));have HP:=hid (hp.set0 (.int .i64 a));obtain ⟨c0,c1,f0,f1,r0,r1,g0,g1⟩:=hp.eight hr;clear hx1 hr hp)
           | (go_at_call 143;(with_reducible refine (HC2 _).mono ?_);rintro e w2 ⟨rfl,hx2⟩;(try clear c0 c1 f0 f1 r0 r1 g0 g1);have hr:=HR.out.later hx2;have hp:=HP.out.later hx2;clear HR HP;have HR:=hid (hr.aside (Nat.le_succ _) (by omega) 1 (.int .i64 (1)) (k:=w.heap.size+1));have HP:=hid (hp.set1 (.int .i64 (1)));obtain ⟨c0,c1,f0,f1,r0,r1,g0,g1⟩:=hp.eight hr;clear hx2 hr hp)
           | (go_at_call 144;(with_reducible refine (zbH a (1) _).mono ?_);rintro e w3 ⟨he,hx3⟩;rw [HWI.out] at he;subst he;(try clear c0 c1 f0 f1 r0 r1 g0 g1);have hr:Bx w w3 w.heap.size 170 #[.int .i64 0,.int .i64 0]:=(by first | exact HR.out.later hx3 | exact (HR.out.aside (k:=w.heap.size+1) (Nat.le_succ _) (by omega) 1 _).later hx3 | exact (zav hx3).1);have hp:Bx w w3 (w.heap.size+1) 170 #[.int .i64 a,.int .i64 (1)]:=(by first | exact HP.out.later hx3 | exact (HP.out.set1 _).later hx3 | exact (zav hx3).2);(try clear HR HP);have HR:=hid hr;have HP:=hid hp;obtain ⟨c0,c1,f0,f1,r0,r1,g0,g1⟩:=hp.eight hr;clear hx3 hr hp)
           | (go_at_call 145;(with_reducible refine (zbf a (1) _ (HG.out.ext HP.out.ext) HAB.out.1 HAB.out.2).mono ?_);rintro e w4 ⟨rfl,hx4⟩;(try clear c0 c1 f0 f1 r0 r1 g0 g1);have hr:=HR.out.later hx4;have hp:=HP.out.later hx4;clear HR HP;have HR:=hid hr;have HP:=hid hp;obtain ⟨c0,c1,f0,f1,r0,r1,g0,g1⟩:=hp.eight hr;clear hx4 hr hp)
           )
          (try simp only [Exit.inBlock,Exit.then])
          refine zas _ rfl rfl ((HR.out.set0 _).set1 _) Tryz.underlying170 rfl (by kernel_rfl) rfl ?_
          exact ⟨by rw [HF.out];rfl,(HP.out.ext.setCell (Nat.le_refl _) _).setCell (Nat.le_refl _) _⟩
        ·have b1:(m == [43])=false:=by rw [beq_eq_false_iff_ne];exact hb1
         rw [if_neg (fun h=>h.elim hb0 hb1)] at HM
         by_cases hb2:m=[45]
         ·have b2:(m == [45])=true:=by rw [hb2];rfl
          have HPL:Hid (za1 (bys s)=zea (some (a)) (some (-1)) (bys s)):=by show _=_;rw [HPQ.out,HM.out];rw [if_pos hb2]
          have HAB:Hid ((-1000000000≤(a:Int)∧(a:Int)≤1000000000)∧(-1000000000≤(-1:Int)∧(-1:Int)≤1000000000)):=⟨HAa.out,by omega⟩
          obtain ⟨hwi,HF⟩ | ⟨hwi,te,HF⟩ | ⟨hwi,te,HF⟩:=zbG HPL.out
          all_goals try exact absurd hwi (by decide)
          all_goals
           have HWI:=hid hwi
           clear hwi
           clear hb0 hb1 hb2
           go_wp2_with (first
            | (go_at_call 143;(with_reducible refine (HC1 _).mono ?_);rintro e w1 ⟨rfl,hx1⟩;obtain ⟨hr,hp⟩:=zav hx1;have HR:=hid (hr.aside (Nat.le_succ _) (by omega) 0 (.int .i64 a) (k:=w.heap.size+1));have HP:=hid (hp.set0 (.int .i64 a));obtain ⟨c0,c1,f0,f1,r0,r1,g0,g1⟩:=hp.eight hr;clear hx1 hr hp)
            | (go_at_call 143;(with_reducible refine (HC2 _).mono ?_);rintro e w2 ⟨rfl,hx2⟩;(try clear c0 c1 f0 f1 r0 r1 g0 g1);have hr:=HR.out.later hx2;have hp:=HP.out.later hx2;clear HR HP;have HR:=hid (hr.aside (Nat.le_succ _) (by omega) 1 (.int .i64 (-1)) (k:=w.heap.size+1));have HP:=hid (hp.set1 (.int .i64 (-1)));obtain ⟨c0,c1,f0,f1,r0,r1,g0,g1⟩:=hp.eight hr;clear hx2 hr hp)
            | (go_at_call 144;(with_reducible refine (zbH a (-1) _).mono ?_);rintro e w3 ⟨he,hx3⟩;rw [HWI.out] at he;subst he;(try clear c0 c1 f0 f1 r0 r1 g0 g1);have hr:Bx w w3 w.heap.size 170 #[.int .i64 0,.int .i64 0]:=(by first | exact HR.out.later hx3 | exact (HR.out.aside (k:=w.heap.size+1) (Nat.le_succ _) (by omega) 1 _).later hx3 | exact (zav hx3).1);have hp:Bx w w3 (w.heap.size+1) 170 #[.int .i64 a,.int .i64 (-1)]:=(by first | exact HP.out.later hx3 | exact (HP.out.set1 _).later hx3 | exact (zav hx3).2);(try clear HR HP);have HR:=hid hr;have HP:=hid hp;obtain ⟨c0,c1,f0,f1,r0,r1,g0,g1⟩:=hp.eight hr;clear hx3 hr hp)
            | (go_at_call 145;(with_reducible refine (zbf a (-1) _ (HG.out.ext HP.out.ext) HAB.out.1 HAB.out.2).mono ?_);rintro e w4 ⟨rfl,hx4⟩;(try clear c0 c1 f0 f1 r0 r1 g0 g1);have hr:=HR.out.later hx4;have hp:=HP.out.later hx4;clear HR HP;have HR:=hid hr;have HP:=hid hp;obtain ⟨c0,c1,f0,f1,r0,r1,g0,g1⟩:=hp.eight hr;clear hx4 hr hp)
            )
           (try simp only [Exit.inBlock,Exit.then])
           refine zas _ rfl rfl ((HR.out.set0 _).set1 _) Tryz.underlying170 rfl (by kernel_rfl) rfl ?_
           exact ⟨by rw [HF.out];rfl,(HP.out.ext.setCell (Nat.le_refl _) _).setCell (Nat.le_refl _) _⟩
         ·have b2:(m == [45])=false:=by rw [beq_eq_false_iff_ne];exact hb2
          rw [if_neg hb2] at HM
          clear hb0 hb1 hb2
          cases hn2:numR m with
          | none=>
           have HF:Hid (za1 (bys s)=none):=by show _=_;rw [HPQ.out,HM.out,hn2];rfl
           have HC2:=HN2.out hn2
           clear hn2
           skip
           go_wp2_with (first
            | (go_at_call 143;(with_reducible refine (HC1 _).mono ?_);rintro e w1 ⟨rfl,hx1⟩;obtain ⟨hr,hp⟩:=zav hx1;have HR:=hid (hr.aside (Nat.le_succ _) (by omega) 0 (.int .i64 a) (k:=w.heap.size+1));have HP:=hid (hp.set0 (.int .i64 a));obtain ⟨c0,c1,f0,f1,r0,r1,g0,g1⟩:=hp.eight hr;clear hx1 hr hp)
            | (go_at_call 143;(with_reducible refine (HC2 _).mono ?_);rintro e w2 ⟨rfl,hx2⟩;(try clear c0 c1 f0 f1 r0 r1 g0 g1);have hr:=HR.out.later hx2;have hp:=HP.out.later hx2;clear HR HP;have HR:=hid (hr.aside (Nat.le_succ _) (by omega) 1 (.int .i64 0) (k:=w.heap.size+1));have HP:=hid (hp.set1 (.int .i64 0));obtain ⟨c0,c1,f0,f1,r0,r1,g0,g1⟩:=hp.eight hr;clear hx2 hr hp)
            )
           (try simp only [Exit.inBlock,Exit.then])
           refine zas _ rfl rfl ((HR.out.set0 (.int .i64 0)).set1 (.int .i64 0)) Tryz.underlying170 rfl (by kernel_rfl) rfl ?_
           exact ⟨by rw [HF.out];rfl,(HP.out.ext.setCell (Nat.le_refl _) _).setCell (Nat.le_refl _) _⟩
          | some b=>
           have HPL:Hid (za1 (bys s)=zea (some (a)) (some b) (bys s)):=by show _=_;rw [HPQ.out,HM.out,hn2]
           have HAB:Hid ((-1000000000≤(a:Int)∧(a:Int)≤1000000000)∧(-1000000000≤b∧b≤1000000000)):=⟨HAa.out,HS.out b (by rw [HM.out,hn2])⟩
           have HC2:=HO2.out b hn2
           clear hn2
           skip
           obtain ⟨hwi,HF⟩ | ⟨hwi,te,HF⟩ | ⟨hwi,te,HF⟩:=zbG HPL.out
           all_goals try exact absurd hwi (by decide)
           all_goals
            have HWI:=hid hwi
            clear hwi
            skip
            go_wp2_with (first
             | (go_at_call 143;(with_reducible refine (HC1 _).mono ?_);rintro e w1 ⟨rfl,hx1⟩;obtain ⟨hr,hp⟩:=zav hx1;have HR:=hid (hr.aside (Nat.le_succ _) (by omega) 0 (.int .i64 a) (k:=w.heap.size+1));have HP:=hid (hp.set0 (.int .i64 a));obtain ⟨c0,c1,f0,f1,r0,r1,g0,g1⟩:=hp.eight hr;clear hx1 hr hp)
             | (go_at_call 143;(with_reducible refine (HC2 _).mono ?_);rintro e w2 ⟨rfl,hx2⟩;(try clear c0 c1 f0 f1 r0 r1 g0 g1);have hr:=HR.out.later hx2;have hp:=HP.out.later hx2;clear HR HP;have HR:=hid (hr.aside (Nat.le_succ _) (by omega) 1 (.int .i64 b) (k:=w.heap.size+1));have HP:=hid (hp.set1 (.int .i64 b));obtain ⟨c0,c1,f0,f1,r0,r1,g0,g1⟩:=hp.eight hr;clear hx2 hr hp)
             | (go_at_call 144;(with_reducible refine (zbH a b _).mono ?_);rintro e w3 ⟨he,hx3⟩;rw [HWI.out] at he;subst he;(try clear c0 c1 f0 f1 r0 r1 g0 g1);have hr:Bx w w3 w.heap.size 170 #[.int .i64 0,.int .i64 0]:=(by first | exact HR.out.later hx3 | exact (HR.out.aside (k:=w.heap.size+1) (Nat.le_succ _) (by omega) 1 _).later hx3 | exact (zav hx3).1);have hp:Bx w w3 (w.heap.size+1) 170 #[.int .i64 a,.int .i64 b]:=(by first | exact HP.out.later hx3 | exact (HP.out.set1 _).later hx3 | exact (zav hx3).2);(try clear HR HP);have HR:=hid hr;have HP:=hid hp;obtain ⟨c0,c1,f0,f1,r0,r1,g0,g1⟩:=hp.eight hr;clear hx3 hr hp)
             | (go_at_call 145;(with_reducible refine (zbf a b _ (HG.out.ext HP.out.ext) HAB.out.1 HAB.out.2).mono ?_);rintro e w4 ⟨rfl,hx4⟩;(try clear c0 c1 f0 f1 r0 r1 g0 g1);have hr:=HR.out.later hx4;have hp:=HP.out.later hx4;clear HR HP;have HR:=hid hr;have HP:=hid hp;obtain ⟨c0,c1,f0,f1,r0,r1,g0,g1⟩:=hp.eight hr;clear hx4 hr hp)
             )
            (try simp only [Exit.inBlock,Exit.then])
            refine zas _ rfl rfl ((HR.out.set0 _).set1 _) Tryz.underlying170 rfl (by kernel_rfl) rfl ?_
            exact ⟨by rw [HF.out];rfl,(HP.out.ext.setCell (Nat.le_refl _) _).setCell (Nat.le_refl _) _⟩
     ·have tk:¬ 0<(k:Int):=by omega
      obtain rfl:k=0:=by omega
      rw [if_neg (by omega)] at HPQ
      have HAa:Hid (-1000000000≤(0:Int)∧(0:Int)≤1000000000):=⟨by omega,by omega⟩
      by_cases hb0:m=[]
      ·have b0:(m == [])=true:=by rw [hb0];rfl
       have HPL:Hid (za1 (bys s)=zea (some (0)) (some (1)) (bys s)):=by show _=_;rw [HPQ.out,HM.out];rw [if_pos (.inl hb0)]
       have HAB:Hid ((-1000000000≤(0:Int)∧(0:Int)≤1000000000)∧(-1000000000≤(1:Int)∧(1:Int)≤1000000000)):=⟨HAa.out,by omega⟩
       obtain ⟨hwi,HF⟩ | ⟨hwi,te,HF⟩ | ⟨hwi,te,HF⟩:=zbG HPL.out
       all_goals try exact absurd hwi (by decide)
       all_goals
        have HWI:=hid hwi
        clear hwi
        clear hb0
        go_wp2_with (first
         | (go_at_call 143;(with_reducible refine (HC1 _).mono ?_);rintro e w1 ⟨rfl,hx1⟩;obtain ⟨hr,hp⟩:=zav hx1;have HR:=hid (hr.aside (Nat.le_succ _) (by omega) 0 (.int .i64 0) (k:=w.heap.size+1));have HP:=hid (hp.set0 (.int .i64 0));obtain ⟨c0,c1,f0,f1,r0,r1,g0,g1⟩:=hp.eight hr;clear hx1 hr hp)
         | (go_at_call 143;(with_reducible refine (HC2 _).mono ?_);rintro e w2 ⟨rfl,hx2⟩;(try clear c0 c1 f0 f1 r0 r1 g0 g1);have hr:=HR.out.later hx2;have hp:=HP.out.later hx2;clear HR HP;have HR:=hid (hr.aside (Nat.le_succ _) (by omega) 1 (.int .i64 (1)) (k:=w.heap.size+1));have HP:=hid (hp.set1 (.int .i64 (1)));obtain ⟨c0,c1,f0,f1,r0,r1,g0,g1⟩:=hp.eight hr;clear hx2 hr hp)
         | (go_at_call 144;(with_reducible refine (zbH 0 (1) _).mono ?_);rintro e w3 ⟨he,hx3⟩;rw [HWI.out] at he;subst he;(try clear c0 c1 f0 f1 r0 r1 g0 g1);have hr:Bx w w3 w.heap.size 170 #[.int .i64 0,.int .i64 0]:=(by first | exact HR.out.later hx3 | exact (HR.out.aside (k:=w.heap.size+1) (Nat.le_succ _) (by omega) 1 _).later hx3 | exact (zav hx3).1);have hp:Bx w w3 (w.heap.size+1) 170 #[.int .i64 0,.int .i64 (1)]:=(by first | exact HP.out.later hx3 | exact (HP.out.set1 _).later hx3 | exact (zav hx3).2);(try clear HR HP);have HR:=hid hr;have HP:=hid hp;obtain ⟨c0,c1,f0,f1,r0,r1,g0,g1⟩:=hp.eight hr;clear hx3 hr hp)
         | (go_at_call 145;(with_reducible refine (zbf 0 (1) _ (HG.out.ext HP.out.ext) HAB.out.1 HAB.out.2).mono ?_);rintro e w4 ⟨rfl,hx4⟩;(try clear c0 c1 f0 f1 r0 r1 g0 g1);have hr:=HR.out.later hx4;have hp:=HP.out.later hx4;clear HR HP;have HR:=hid hr;have HP:=hid hp;obtain ⟨c0,c1,f0,f1,r0,r1,g0,g1⟩:=hp.eight hr;clear hx4 hr hp)
         )
        (try simp only [Exit.inBlock,Exit.then])
        refine zas _ rfl rfl ((HR.out.set0 _).set1 _) Tryz.underlying170 rfl (by kernel_rfl) rfl ?_
        exact ⟨by rw [HF.out];rfl,(HP.out.ext.setCell (Nat.le_refl _) _).setCell (Nat.le_refl _) _⟩
      ·have b0:(m == [])=false:=by rw [beq_eq_false_iff_ne];exact hb0
       by_cases hb1:m=[43]
       ·have b1:(m == [43])=true:=by rw [hb1];rfl
        have HPL:Hid (za1 (bys s)=zea (some (0)) (some (1)) (bys s)):=by show _=_;rw [HPQ.out,HM.out];rw [if_pos (.inr hb1)]
        have HAB:Hid ((-1000000000≤(0:Int)∧(0:Int)≤1000000000)∧(-1000000000≤(1:Int)∧(1:Int)≤1000000000)):=⟨HAa.out,by omega⟩
        obtain ⟨hwi,HF⟩ | ⟨hwi,te,HF⟩ | ⟨hwi,te,HF⟩:=zbG HPL.out
        all_goals try exact absurd hwi (by decide)
        all_goals
         have HWI:=hid hwi
         clear hwi
         clear hb0 hb1
         go_wp2_with (first
          | (go_at_call 143;(with_reducible refine (HC1 _).mono ?_);rintro e w1 ⟨rfl,hx1⟩;obtain ⟨hr,hp⟩:=zav hx1;have HR:=hid (hr.aside (Nat.le_succ _) (by omega) 0 (.int .i64 0) (k:=w.heap.size+1));have HP:=hid (hp.set0 (.int .i64 0));obtain ⟨c0,c1,f0,f1,r0,r1,g0,g1⟩:=hp.eight hr;clear hx1 hr hp)
          | (go_at_call 143;(with_reducible refine (HC2 _).mono ?_);rintro e w2 ⟨rfl,hx2⟩;(try clear c0 c1 f0 f1 r0 r1 g0 g1);have hr:=HR.out.later hx2;have hp:=HP.out.later hx2;clear HR HP;have HR:=hid (hr.aside (Nat.le_succ _) (by omega) 1 (.int .i64 (1)) (k:=w.heap.size+1));have HP:=hid (hp.set1 (.int .i64 (1)));obtain ⟨c0,c1,f0,f1,r0,r1,g0,g1⟩:=hp.eight hr;clear hx2 hr hp)
          | (go_at_call 144;(with_reducible refine (zbH 0 (1) _).mono ?_);rintro e w3 ⟨he,hx3⟩;rw [HWI.out] at he;subst he;(try clear c0 c1 f0 f1 r0 r1 g0 g1);have hr:Bx w w3 w.heap.size 170 #[.int .i64 0,.int .i64 0]:=(by first | exact HR.out.later hx3 | exact (HR.out.aside (k:=w.heap.size+1) (Nat.le_succ _) (by omega) 1 _).later hx3 | exact (zav hx3).1);have hp:Bx w w3 (w.heap.size+1) 170 #[.int .i64 0,.int .i64 (1)]:=(by first | exact HP.out.later hx3 | exact (HP.out.set1 _).later hx3 | exact (zav hx3).2);(try clear HR HP);have HR:=hid hr;have HP:=hid hp;obtain ⟨c0,c1,f0,f1,r0,r1,g0,g1⟩:=hp.eight hr;clear hx3 hr hp)
          | (go_at_call 145;(with_reducible refine (zbf 0 (1) _ (HG.out.ext HP.out.ext) HAB.out.1 HAB.out.2).mono ?_);rintro e w4 ⟨rfl,hx4⟩;(try clear c0 c1 f0 f1 r0 r1 g0 g1);have hr:=HR.out.later hx4;have hp:=HP.out.later hx4;clear HR HP;have HR:=hid hr;have HP:=hid hp;obtain ⟨c0,c1,f0,f1,r0,r1,g0,g1⟩:=hp.eight hr;clear hx4 hr hp)
          )
         (try simp only [Exit.inBlock,Exit.then])
         refine zas _ rfl rfl ((HR.out.set0 _).set1 _) Tryz.underlying170 rfl (by kernel_rfl) rfl ?_
         exact ⟨by rw [HF.out];rfl,(HP.out.ext.setCell (Nat.le_refl _) _).setCell (Nat.le_refl _) _⟩
       ·have b1:(m == [43])=false:=by rw [beq_eq_false_iff_ne];exact hb1
        rw [if_neg (fun h=>h.elim hb0 hb1)] at HM
        by_cases hb2:m=[45]
        ·have b2:(m == [45])=true:=by rw [hb2];rfl
         have HPL:Hid (za1 (bys s)=zea (some (0)) (some (-1)) (bys s)):=by show _=_;rw [HPQ.out,HM.out];rw [if_pos hb2]
         have HAB:Hid ((-1000000000≤(0:Int)∧(0:Int)≤1000000000)∧(-1000000000≤(-1:Int)∧(-1:Int)≤1000000000)):=⟨HAa.out,by omega⟩
         obtain ⟨hwi,HF⟩ | ⟨hwi,te,HF⟩ | ⟨hwi,te,HF⟩:=zbG HPL.out
         all_goals try exact absurd hwi (by decide)
         all_goals
          have HWI:=hid hwi
          clear hwi
          clear hb0 hb1 hb2
          go_wp2_with (first
           | (go_at_call 143;(with_reducible refine (HC1 _).mono ?_);rintro e w1 ⟨rfl,hx1⟩;obtain ⟨hr,hp⟩:=zav hx1;have HR:=hid (hr.aside (Nat.le_succ _) (by omega) 0 (.int .i64 0) (k:=w.heap.size+1));have HP:=hid (hp.set0 (.int .i64 0));obtain ⟨c0,c1,f0,f1,r0,r1,g0,g1⟩:=hp.eight hr;clear hx1 hr hp)
           | (go_at_call 143;(with_reducible refine (HC2 _).mono ?_);rintro e w2 ⟨rfl,hx2⟩;(try clear c0 c1 f0 f1 r0 r1 g0 g1);have hr:=HR.out.later hx2;have hp:=HP.out.later hx2;clear HR HP;have HR:=hid (hr.aside (Nat.le_succ _) (by omega) 1 (.int .i64 (-1)) (k:=w.heap.size+1));have HP:=hid (hp.set1 (.int .i64 (-1)));obtain ⟨c0,c1,f0,f1,r0,r1,g0,g1⟩:=hp.eight hr;clear hx2 hr hp)
           | (go_at_call 144;(with_reducible refine (zbH 0 (-1) _).mono ?_);rintro e w3 ⟨he,hx3⟩;rw [HWI.out] at he;subst he;(try clear c0 c1 f0 f1 r0 r1 g0 g1);have hr:Bx w w3 w.heap.size 170 #[.int .i64 0,.int .i64 0]:=(by first | exact HR.out.later hx3 | exact (HR.out.aside (k:=w.heap.size+1) (Nat.le_succ _) (by omega) 1 _).later hx3 | exact (zav hx3).1);have hp:Bx w w3 (w.heap.size+1) 170 #[.int .i64 0,.int .i64 (-1)]:=(by first | exact HP.out.later hx3 | exact (HP.out.set1 _).later hx3 | exact (zav hx3).2);(try clear HR HP);have HR:=hid hr;have HP:=hid hp;obtain ⟨c0,c1,f0,f1,r0,r1,g0,g1⟩:=hp.eight hr;clear hx3 hr hp)
           | (go_at_call 145;(with_reducible refine (zbf 0 (-1) _ (HG.out.ext HP.out.ext) HAB.out.1 HAB.out.2).mono ?_);rintro e w4 ⟨rfl,hx4⟩;(try clear c0 c1 f0 f1 r0 r1 g0 g1);have hr:=HR.out.later hx4;have hp:=HP.out.later hx4;clear HR HP;have HR:=hid hr;have HP:=hid hp;obtain ⟨c0,c1,f0,f1,r0,r1,g0,g1⟩:=hp.eight hr;clear hx4 hr hp)
           )
          (try simp only [Exit.inBlock,Exit.then])
          refine zas _ rfl rfl ((HR.out.set0 _).set1 _) Tryz.underlying170 rfl (by kernel_rfl) rfl ?_
          exact ⟨by rw [HF.out];rfl,(HP.out.ext.setCell (Nat.le_refl _) _).setCell (Nat.le_refl _) _⟩
        ·have b2:(m == [45])=false:=by rw [beq_eq_false_iff_ne];exact hb2
         rw [if_neg hb2] at HM
         clear hb0 hb1 hb2
         cases hn2:numR m with
         | none=>
          have HF:Hid (za1 (bys s)=none):=by show _=_;rw [HPQ.out,HM.out,hn2];rfl
          have HC2:=HN2.out hn2
          clear hn2
          (obtain ⟨hr,hp⟩:=zav (w:=w) (T:=170) (U:=170) (xs:=#[.int .i64 0,.int .i64 0]) (ys:=#[.int .i64 0,.int .i64 0]) (Ext.refl _);have HR:=hid hr;have HP:=hid hp;clear hr hp)
          go_wp2_with (first
           | (go_at_call 143;(with_reducible refine (HC1 _).mono ?_);rintro e w1 ⟨rfl,hx1⟩;obtain ⟨hr,hp⟩:=zav hx1;have HR:=hid (hr.aside (Nat.le_succ _) (by omega) 0 (.int .i64 0) (k:=w.heap.size+1));have HP:=hid (hp.set0 (.int .i64 0));obtain ⟨c0,c1,f0,f1,r0,r1,g0,g1⟩:=hp.eight hr;clear hx1 hr hp)
           | (go_at_call 143;(with_reducible refine (HC2 _).mono ?_);rintro e w2 ⟨rfl,hx2⟩;(try clear c0 c1 f0 f1 r0 r1 g0 g1);have hr:=HR.out.later hx2;have hp:=HP.out.later hx2;clear HR HP;have HR:=hid (hr.aside (Nat.le_succ _) (by omega) 1 (.int .i64 0) (k:=w.heap.size+1));have HP:=hid (hp.set1 (.int .i64 0));obtain ⟨c0,c1,f0,f1,r0,r1,g0,g1⟩:=hp.eight hr;clear hx2 hr hp)
           )
          (try simp only [Exit.inBlock,Exit.then])
          refine zas _ rfl rfl ((HR.out.set0 (.int .i64 0)).set1 (.int .i64 0)) Tryz.underlying170 rfl (by kernel_rfl) rfl ?_
          exact ⟨by rw [HF.out];rfl,(HP.out.ext.setCell (Nat.le_refl _) _).setCell (Nat.le_refl _) _⟩
         | some b=>
          have HPL:Hid (za1 (bys s)=zea (some (0)) (some b) (bys s)):=by show _=_;rw [HPQ.out,HM.out,hn2]
          have HAB:Hid ((-1000000000≤(0:Int)∧(0:Int)≤1000000000)∧(-1000000000≤b∧b≤1000000000)):=⟨HAa.out,HS.out b (by rw [HM.out,hn2])⟩
          have HC2:=HO2.out b hn2
          clear hn2
          (obtain ⟨hr,hp⟩:=zav (w:=w) (T:=170) (U:=170) (xs:=#[.int .i64 0,.int .i64 0]) (ys:=#[.int .i64 0,.int .i64 0]) (Ext.refl _);have HR:=hid hr;have HP:=hid hp;clear hr hp)
          obtain ⟨hwi,HF⟩ | ⟨hwi,te,HF⟩ | ⟨hwi,te,HF⟩:=zbG HPL.out
          all_goals try exact absurd hwi (by decide)
          all_goals
           have HWI:=hid hwi
           clear hwi
           skip
           go_wp2_with (first
            | (go_at_call 143;(with_reducible refine (HC1 _).mono ?_);rintro e w1 ⟨rfl,hx1⟩;obtain ⟨hr,hp⟩:=zav hx1;have HR:=hid (hr.aside (Nat.le_succ _) (by omega) 0 (.int .i64 0) (k:=w.heap.size+1));have HP:=hid (hp.set0 (.int .i64 0));obtain ⟨c0,c1,f0,f1,r0,r1,g0,g1⟩:=hp.eight hr;clear hx1 hr hp)
            | (go_at_call 143;(with_reducible refine (HC2 _).mono ?_);rintro e w2 ⟨rfl,hx2⟩;(try clear c0 c1 f0 f1 r0 r1 g0 g1);have hr:=HR.out.later hx2;have hp:=HP.out.later hx2;clear HR HP;have HR:=hid (hr.aside (Nat.le_succ _) (by omega) 1 (.int .i64 b) (k:=w.heap.size+1));have HP:=hid (hp.set1 (.int .i64 b));obtain ⟨c0,c1,f0,f1,r0,r1,g0,g1⟩:=hp.eight hr;clear hx2 hr hp)
            | (go_at_call 144;(with_reducible refine (zbH 0 b _).mono ?_);rintro e w3 ⟨he,hx3⟩;rw [HWI.out] at he;subst he;(try clear c0 c1 f0 f1 r0 r1 g0 g1);have hr:Bx w w3 w.heap.size 170 #[.int .i64 0,.int .i64 0]:=(by first | exact HR.out.later hx3 | exact (HR.out.aside (k:=w.heap.size+1) (Nat.le_succ _) (by omega) 1 _).later hx3 | exact (zav hx3).1);have hp:Bx w w3 (w.heap.size+1) 170 #[.int .i64 0,.int .i64 b]:=(by first | exact HP.out.later hx3 | exact (HP.out.set1 _).later hx3 | exact (zav hx3).2);(try clear HR HP);have HR:=hid hr;have HP:=hid hp;obtain ⟨c0,c1,f0,f1,r0,r1,g0,g1⟩:=hp.eight hr;clear hx3 hr hp)
            | (go_at_call 145;(with_reducible refine (zbf 0 b _ (HG.out.ext HP.out.ext) HAB.out.1 HAB.out.2).mono ?_);rintro e w4 ⟨rfl,hx4⟩;(try clear c0 c1 f0 f1 r0 r1 g0 g1);have hr:=HR.out.later hx4;have hp:=HP.out.later hx4;clear HR HP;have HR:=hid hr;have HP:=hid hp;obtain ⟨c0,c1,f0,f1,r0,r1,g0,g1⟩:=hp.eight hr;clear hx4 hr hp)
            )
           (try simp only [Exit.inBlock,Exit.then])
           refine zas _ rfl rfl ((HR.out.set0 _).set1 _) Tryz.underlying170 rfl (by kernel_rfl) rfl ?_
           exact ⟨by rw [HF.out];rfl,(HP.out.ext.setCell (Nat.le_refl _) _).setCell (Nat.le_refl _) _⟩
  ·have ty:((y.toNat:Int)==105)=false:=zau (k:=105) h105
   have HA:Hid (atR (bys s)=s.size):=by show _=_;unfold atR;rw [HL.out,if_neg (fun e=>h105 (by injection e)),zaf]
   have HP0:Hid (za1 (bys s)=zea (numR (bys s)) (some 0) (bys s)):=by
    show _=_
    unfold za1
    rw [HA.out,if_pos (by omega),if_neg (by rw [zaf];omega),List.take_of_length_le (Nat.le_of_eq (zaf s))]
   obtain ⟨s1,hs1⟩:∃ s1,s.extract 0 s.size=s1:=⟨_,rfl⟩
   have HE1:Hid (bys s1=bys s):=by show _=_;rw [← hs1,zeW];rfl
   have HZ1:Hid (s1.size≤4000000):=by show _≤_;rw [← zaf,HE1.out,zaf];exact hs
   clear h105
   cases hn:numR (bys s) with
   | none=>
    have HF:Hid (za1 (bys s)=none):=by show _=_;rw [HP0.out,hn];rfl
    have HC1:=zjf HZ1.out (by rw [HE1.out,hn])
    clear hn
    go_enter Tryz.func113,Tryz.ntmps113
    go_wp2_with (first
     | (go_at_call 143;(with_reducible refine (HC1 _).mono ?_);rintro e w1 ⟨rfl,hx1⟩;obtain ⟨hr,hp⟩:=zav hx1;have HR:=hid (hr.aside (Nat.le_succ _) (by omega) 0 (.int .i64 0) (k:=w.heap.size+1));have HP:=hid (hp.set0 (.int .i64 0));obtain ⟨c0,c1,f0,f1,r0,r1,g0,g1⟩:=hp.eight hr;clear hx1 hr hp)
     | (go_at_call 143;(with_reducible refine (HC2 _).mono ?_);rintro e w2 ⟨rfl,hx2⟩;(try clear c0 c1 f0 f1 r0 r1 g0 g1);have hr:=HR.out.later hx2;have hp:=HP.out.later hx2;clear HR HP;have HR:=hid (hr.aside (Nat.le_succ _) (by omega) 1 (.int .i64 0) (k:=w.heap.size+1));have HP:=hid (hp.set1 (.int .i64 0));obtain ⟨c0,c1,f0,f1,r0,r1,g0,g1⟩:=hp.eight hr;clear hx2 hr hp)
     )
    (try simp only [Exit.inBlock,Exit.then])
    refine zas _ rfl rfl ((HR.out.set0 (.int .i64 0)).set1 (.int .i64 0)) Tryz.underlying170 rfl (by kernel_rfl) rfl ?_
    exact ⟨by rw [HF.out];rfl,(HP.out.ext.setCell (Nat.le_refl _) _).setCell (Nat.le_refl _) _⟩
   | some a=>
    have HPL:Hid (za1 (bys s)=zea (some a) (some 0) (bys s)):=by show _=_;rw [HP0.out,hn]
    have hsm:=zgc hn
    have HAB:Hid ((-1000000000≤a∧a≤1000000000)∧(-1000000000≤(0:Int)∧(0:Int)≤1000000000)):=⟨by omega,by omega⟩
    have HC1:=zji HZ1.out (by rw [HE1.out,hn])
    clear hn hsm
    obtain ⟨hwi,HF⟩ | ⟨hwi,te,HF⟩ | ⟨hwi,te,HF⟩:=zbG HPL.out
    all_goals try exact absurd hwi (by decide)
    all_goals
     have HWI:=hid hwi
     clear hwi
     go_enter Tryz.func113,Tryz.ntmps113
     go_wp2_with (first
      | (go_at_call 143;(with_reducible refine (HC1 _).mono ?_);rintro e w1 ⟨rfl,hx1⟩;obtain ⟨hr,hp⟩:=zav hx1;have HR:=hid (hr.aside (Nat.le_succ _) (by omega) 0 (.int .i64 a) (k:=w.heap.size+1));have HP:=hid (hp.set0 (.int .i64 a));obtain ⟨c0,c1,f0,f1,r0,r1,g0,g1⟩:=hp.eight hr;clear hx1 hr hp)
      | (go_at_call 143;(with_reducible refine (HC2 _).mono ?_);rintro e w2 ⟨rfl,hx2⟩;(try clear c0 c1 f0 f1 r0 r1 g0 g1);have hr:=HR.out.later hx2;have hp:=HP.out.later hx2;clear HR HP;have HR:=hid (hr.aside (Nat.le_succ _) (by omega) 1 (.int .i64 0) (k:=w.heap.size+1));have HP:=hid (hp.set1 (.int .i64 0));obtain ⟨c0,c1,f0,f1,r0,r1,g0,g1⟩:=hp.eight hr;clear hx2 hr hp)
      | (go_at_call 144;(with_reducible refine (zbH a 0 _).mono ?_);rintro e w3 ⟨he,hx3⟩;rw [HWI.out] at he;subst he;(try clear c0 c1 f0 f1 r0 r1 g0 g1);have hr:Bx w w3 w.heap.size 170 #[.int .i64 0,.int .i64 0]:=(by first | exact HR.out.later hx3 | exact (HR.out.aside (k:=w.heap.size+1) (Nat.le_succ _) (by omega) 1 _).later hx3 | exact (zav hx3).1);have hp:Bx w w3 (w.heap.size+1) 170 #[.int .i64 a,.int .i64 0]:=(by first | exact HP.out.later hx3 | exact (HP.out.set1 _).later hx3 | exact (zav hx3).2);(try clear HR HP);have HR:=hid hr;have HP:=hid hp;obtain ⟨c0,c1,f0,f1,r0,r1,g0,g1⟩:=hp.eight hr;clear hx3 hr hp)
      | (go_at_call 145;(with_reducible refine (zbf a 0 _ (HG.out.ext HP.out.ext) HAB.out.1 HAB.out.2).mono ?_);rintro e w4 ⟨rfl,hx4⟩;(try clear c0 c1 f0 f1 r0 r1 g0 g1);have hr:=HR.out.later hx4;have hp:=HP.out.later hx4;clear HR HP;have HR:=hid hr;have HP:=hid hp;obtain ⟨c0,c1,f0,f1,r0,r1,g0,g1⟩:=hp.eight hr;clear hx4 hr hp)
      )
     (try simp only [Exit.inBlock,Exit.then])
     refine zas _ rfl rfl ((HR.out.set0 _).set1 _) Tryz.underlying170 rfl (by kernel_rfl) rfl ?_
     exact ⟨by rw [HF.out];rfl,(HP.out.ext.setCell (Nat.le_refl _) _).setCell (Nat.le_refl _) _⟩
def escI (z:Int) (b0 bL sp:Bool):Bool:=((z==32) && (b0 || bL)) || ((z==35) && b0) || sp
def ze2 (c:UInt8) (b0 bL:Bool):List UInt8:=
 if escI (c.toNat:Int) b0 bL (zbs c)=true then [92,c] else if (c.toNat:Int)<32∨126<(c.toNat:Int) then [92,zbr (c.toNat / 16),zbr (c.toNat % 16)] else [c]
theorem zg9 (b0:Bool) (c:UInt8) (t:List UInt8):zaA b0 (c::t)=ze2 c b0 t.isEmpty++zaA false t:=by
 have e32:((c.toNat:Int)==32)=(c==32):=by
  by_cases h:c=32
  ·rw [show ((c.toNat:Int)==32)=true from za6 (k:=32) (by decide) h,h];rfl
  ·rw [show ((c.toNat:Int)==32)=false from zau (k:=32) h,beq_eq_false_iff_ne.2 h]
 have e35:((c.toNat:Int)==35)=(c==35):=by
  by_cases h:c=35
  ·rw [show ((c.toNat:Int)==35)=true from za6 (k:=35) (by decide) h,h];rfl
  ·rw [show ((c.toNat:Int)==35)=false from zau (k:=35) h,beq_eq_false_iff_ne.2 h]
 have eq:((c.toNat:Int)<32∨126<(c.toNat:Int)) ↔ (c.toNat<32∨126<c.toNat):=by omega
 unfold ze2 escI
 rw [e32,e35]
 simp only [eq]
 rfl
theorem zjr {k:Nat} (h:k<16):(bys ⟨#[48,49,50,51,52,53,54,55,56,57,97,98,99,100,101,102]⟩)[k]?=some (zbr k):=by
 have hall:∀ k<16,(bys ⟨#[48,49,50,51,52,53,54,55,56,57,97,98,99,100,101,102]⟩)[k]?=some (zbr k):=by decide
 exact hall k h
theorem zow (x:UInt8):bits BinOp.and IntKind.u8 (x.toNat:Int) 15=((x.toNat % 16:Nat):Int):=by
 obtain ⟨n,rfl⟩:∃ n:Fin 256,x=UInt8.ofFin n:=⟨x.toFin,rfl⟩
 revert n
 decide +kernel
theorem zlf (w:World) (xs:List UInt8) (n:Nat) (hn:n=xs.length) (hm:n≤maxLen):Sl (w.alloc (.cells (xs.map bv).toArray 5)) (some ⟨w.heap.size,0,none⟩) n n xs:=Sl.of_own (zp1 w xs n hn hm 0 (Nat.zero_le _))
theorem zsl {w:World} {o:Oper} {a:Act} {K:Act→World→Prop} {Q:Exit→Act→World→Prop} (x y:Operand) (ho:o.op=.buildSlice 129 3 #[(0,.const (.int .u8 92)),(1,x),(2,y)]) (p q:UInt8) (hx:a.eval x=.int .u8 (p.toNat:Int)) (hy:a.eval y=.int .u8 (q.toNat:Int))
 (h:∀ A w',Ext w w'→Sl w' A 3 3 [92,p,q]→K (a.put o.dst (.slice A 3 3)) w'):o.wp Tryz.prog a w K Q:=by
 have hr:(execOp a.eval o).run Tryz.prog w=.ok (.value (.slice (some ⟨w.heap.size,0,none⟩) 3 3)) (w.alloc (.cells #[.int .u8 92,.int .u8 (p.toNat:Int),.int .u8 (q.toNat:Int)] 5)):=by
  unfold execOp
  simp only [ho,List.map_toArray,List.map_cons,List.map_nil,hx,hy]
  kernel_rfl
 unfold Oper.wp
 rw [hr]
 exact h _ _ (Ext.alloc _ _) (zlf w [92,p,q] 3 rfl (by simp [maxLen]))
theorem znV (s:ByteArray) (w:World) (hs:s.size≤4000000):Calls Tryz.prog 117 #[.string s] w fun e w'=>e=.returned (.string (str (zaA true (bys s))))∧Ext w w':=by
 have Hs:=hid hs
 go_enter Tryz.func117,Tryz.ntmps117
 go_wp2
 go_loopw [3,4] (fun v i wr=>∃ (j:Nat) (acc:List UInt8),j≤s.size∧i=.int .i64 j∧acc.length≤3 * j∧Hid (GrowB w wr v acc)∧Hid (acc++zaA (decide (j=0)) ((bys s).drop j)=zaA true (bys s))) (fun _ i _=>s.size-(intOf i).toNat)
 case atStart=>exact ⟨0,[],by omega,rfl,by simp,GrowB.nil (Ext.refl _),rfl⟩
 case round=>
  obtain ⟨j,acc,hj,rfl,hacc,HG,HR⟩:=hrel
  by_cases hlt:j<s.size
  ·obtain ⟨x,hx⟩:=zcq hlt
   have gx:=za0 hx hlt
   have hd:=zc0 hx
   have hx1:(x.toNat:Int)<256:=by have:=x.toNat_lt;omega
   have hx0:0≤(x.toNat:Int):=by omega
   have hemp:((bys s).drop (j+1)).isEmpty=((j:Int)==(s.size:Int)-1):=by
    rw [Bool.eq_iff_iff,List.isEmpty_iff,beq_iff_eq,List.drop_eq_nil_iff,zaf]
    omega
   have h0:decide (j=0)=((j:Int)==0):=by rw [Bool.eq_iff_iff,beq_iff_eq,decide_eq_true_eq];omega
   have hst:acc++ze2 x ((j:Int)==0) ((j:Int)==(s.size:Int)-1)++zaA false ((bys s).drop (j+1))=zaA true (bys s):=by
    rw [← HR.out,hd,zg9,hemp,h0,List.append_assoc]
   have hj1:decide (j+1=0)=false:=rfl
   rw [← hj1] at hst
   have HE:Hid (escI (x.toNat:Int) ((j:Int)==0) ((j:Int)==(s.size:Int)-1) (zbs x)=true→(acc++[92,x])++zaA (decide (j+1=0)) ((bys s).drop (j+1))=zaA true (bys s)):=by
    intro h;rw [← hst];unfold ze2;rw [if_pos h]
   have HP:Hid (escI (x.toNat:Int) ((j:Int)==0) ((j:Int)==(s.size:Int)-1) (zbs x)=false→¬ ((x.toNat:Int)<32∨126<(x.toNat:Int))→(acc++[x])++zaA (decide (j+1=0)) ((bys s).drop (j+1))=zaA true (bys s)):=by
    intro h k;rw [← hst];unfold ze2;rw [if_neg (by rw [h];decide),if_neg k]
   have HX:Hid (escI (x.toNat:Int) ((j:Int)==0) ((j:Int)==(s.size:Int)-1) (zbs x)=false→((x.toNat:Int)<32∨126<(x.toNat:Int))→(acc++[92,zbr (x.toNat / 16),zbr (x.toNat % 16)])++zaA (decide (j+1=0)) ((bys s).drop (j+1))=zaA true (bys s)):=by
    intro h k;rw [← hst];unfold ze2;rw [if_neg (by rw [h];decide),if_pos k]
   clear hx hd hemp h0 hst hj1
   cases hsp:zbs x with
   | true=>
    have HSP:=hid hsp
    have HE':Hid ((acc++[92,x])++zaA (decide (j+1=0)) ((bys s).drop (j+1))=zaA true (bys s)):=HE.out (by unfold escI;rw [hsp];simp)
    clear hsp HE HP HX
    go_wp2_with (first
     | (go_at_call 147;(with_reducible refine (za5 x _).mono ?_);rintro e w4 ⟨he4,rfl⟩;rw [HSP.out] at he4;subst he4)
     | (at_builtin;refine zbC rfl _ _ rfl _ _ rfl (HG.out.later (Ext.alloc _ _)) _ 2 2 [92,x] rfl (zlf _ [92,x] 2 rfl (by simp [maxLen])) (by omega) ?_;intro v' w5 hg5;have HG5:=hid hg5;clear hg5))
    exact ⟨⟨j+1,_,by omega,by go_num,by simp;omega,HG5,HE'⟩,by simp [intOf];omega⟩
   | false=>
    have HSP:=hid hsp
    clear hsp
    rw [HSP.out] at HE HP HX
    generalize hq32:((x.toNat:Int)==32)=b32 at *
    generalize hq35:((x.toNat:Int)==35)=b35 at *
    generalize hq0:((j:Int)==0)=b0 at *
    generalize hqL:((j:Int)==(s.size:Int)-1)=bL at *
    have hE2:∀ b,escI (x.toNat:Int) b0 bL false=b ↔ ((b32 && (b0 || bL)) || (b35 && b0))=b:=by intro b;unfold escI;rw [hq32,hq35,Bool.or_false]
    rw [hE2] at HE HP HX
    clear hE2
    have hu:(((x.toNat:Int)<32∨126<(x.toNat:Int))∧((x.toNat:Int)<32∨(¬ (x.toNat:Int)<32∧126<(x.toNat:Int))))∨(¬ ((x.toNat:Int)<32∨126<(x.toNat:Int))∧¬ (x.toNat:Int)<32∧¬ 126<(x.toNat:Int)):=by omega
    cases b32 <;> cases b35 <;> cases b0 <;> cases bL
    all_goals first
     | (have HE':=hid (HE.out rfl)
        clear HE HP HX hu
        go_wp2_with (first
         | (go_at_call 147;(with_reducible refine (za5 x _).mono ?_);rintro e w4 ⟨he4,rfl⟩;rw [HSP.out] at he4;subst he4)
         | (at_builtin;refine zbC rfl _ _ rfl _ _ rfl (HG.out.later (Ext.alloc _ _)) _ 2 2 [92,x] rfl (zlf _ [92,x] 2 rfl (by simp [maxLen])) (by omega) ?_;intro v' w5 hg5;have HG5:=hid hg5;clear hg5))
        exact ⟨⟨j+1,_,by omega,by go_num,by simp;omega,HG5,HE'⟩,by simp [intOf];omega⟩)
     | (rcases hu with ⟨hu,hv⟩ | ⟨hu,hu1,hu2⟩
        ·have HX':=hid (HX.out rfl hu)
         clear HE HP HX hu
         obtain ⟨k1,hk1⟩:∃ k,k=x.toNat / 16:=⟨_,rfl⟩
         obtain ⟨k2,hk2⟩:∃ k,k=x.toNat % 16:=⟨_,rfl⟩
         have hl1:k1<16:=by omega
         have hl2:k2<16:=by omega
         have g1:=za0 (zjr hl1) hl1
         have g2:=za0 (zjr hl2) hl2
         have hsh:(x.toNat:Int) / 16=(k1:Int):=by omega
         have hand:=zow x
         rw [← hk1,← hk2] at HX'
         rw [← hk2] at hand
         have hk1':(k1:Int)<16:=by omega
         have hk2':(k2:Int)<16:=by omega
         generalize zbr k1=d1 at *
         generalize zbr k2=d2 at *
         clear hk1 hk2
         rcases hv with hv | ⟨hv,hv2⟩
         all_goals
          go_wp2_with (first
           | (go_at_call 147;(with_reducible refine (za5 x _).mono ?_);rintro e w4 ⟨he4,rfl⟩;rw [HSP.out] at he4;subst he4))
          refine zaq w.heap.size (.read 0 (.read 1 (.read 2 (.read 3 (.read 4 (.read 5 (.read 6 (.main 7 (.main 8 (.read 9 .done)))))))))) (by kernel_rfl) (by kernel_rfl) ?_
          intro wD hxD
          have XB:Hid (Below w.heap.size wD wD):=Below.refl _ _
          have HGD:=hid (HG.out.later hxD)
          repeat' (first
           | ((first | refine zaI rfl rfl ?_ | refine zaw rfl rfl ?_ | refine walksB_skip rfl rfl ?_);simp only [Act.put,Act.eval,evs])
           | (refine walksB_unwanted rfl rfl ?_;simp only [Act.put,evp])
           | (refine zaC (v:=?_) rfl rfl (fun w' hE=>?_) ?_;rotate_left 1;(· ((try (have hEx:=Below.trans (Hid.out XB) hE));go_simp;(try go_bits);with_reducible rfl));simp only [Act.put,evp])
           | (refine zam rfl rfl (fun K hK=>?_);(first | (refine zsl _ _ rfl d1 d2 rfl rfl ?_;intro A8 w8 hx8 hs8;have hx8':=Below.mono hx8 (zaD HGD.out.ext);have HGE:=hid (HGD.out.later hx8);have HS8:=hid hs8;clear hx8 hs8;have XB':=hid (Below.trans (Hid.out XB) (hx8'));clear XB;have XB:=XB';clear XB') | (refine zdu _ _ rfl _ acc rfl HGE.out _ 3 3 [92,d1,d2] rfl HS8.out (by omega) ?_;intro v' w9 hg9 hb9;have HG9:=hid hg9;clear hg9;have XB':=hid (Below.trans (Hid.out XB) (hb9));clear XB;have XB:=XB';clear XB'));refine hK _ _ (by first | assumption | exact Below.refl _ _ | exact Below.mono (Ext.alloc _ _) (Hid.out HSW) | exact Below.setCell (p:=⟨_,_,_⟩) (Below.refl _ _) (Nat.le_refl _) _) ?_;clear hK K;try simp only [Act.put,evp])
           | (refine zaQ ?_ ?_)
           | (refine zam rfl rfl (fun K hK=>?_);go_wp2_with (fail);refine hK _ _ (by first | assumption | exact Below.refl _ _ | exact Below.mono (Ext.alloc _ _) (Hid.out HSW) | exact Below.setCell (p:=⟨_,_,_⟩) (Below.refl _ _) (Nat.le_refl _) _) ?_;clear hK K;try simp only [Act.put,evp]))
          refine zaH ?_
          go_wp2
          exact ⟨⟨j+1,acc++[92,d1,d2],by omega,by go_num,by simp;omega,HG9,HX'⟩,by simp [intOf];omega⟩
        ·have HP':=hid (HP.out rfl hu)
         clear HE HP HX hu
         go_wp2_with (first
          | (go_at_call 147;(with_reducible refine (za5 x _).mono ?_);rintro e w4 ⟨he4,rfl⟩;rw [HSP.out] at he4;subst he4)
          | (at_builtin;refine zbC rfl _ _ rfl _ _ rfl (HG.out.later (Ext.alloc _ _)) _ 1 1 [x] rfl (zdS _ x) (by omega) ?_;intro v' w5 hg5;have HG5:=hid hg5;clear hg5))
         exact ⟨⟨j+1,_,by omega,by go_num,by simp;omega,HG5,HP'⟩,by simp [intOf];omega⟩)
  ·obtain rfl:j=s.size:=by omega
   have HF:Hid (zaA true (bys s)=acc):=by show _=_;rw [← HR.out,zbT (Nat.le_refl _)];simp [zaA]
   obtain ⟨A1,c1,rfl,hs1⟩:=HG.out.sl
   have hC:=hs1.conv wr (Ext.refl wr)
   clear hs1
   go_wp2
   go_ret
   exact ⟨by rw [HF.out];rfl,HG.out.ext⟩
end Go.Proofs.YtioglicfndkgiaaGreatDoor
