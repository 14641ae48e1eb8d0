/- Lemmas of the walk. -/
import Derived.Test.YtkjbokhnpphimaaGreatDoorV13
import Derived.Test.YtkjbokhnpphimaaGreatDoorV10
set_option maxHeartbeats 40000000
set_option linter.unusedVariables false
set_option linter.unusedSimpArgs false
namespace Go.Proofs.YtkjbokhnpphimaaGreatDoor
open Go.RowKit
set_option maxRecDepth 100000
theorem zix{sep c:UInt8}{cur t:List UInt8}(h:c=sep):splitF sep cur (c::t)=cur::splitF sep [] t:=by conv=>lhs;unfold splitF;rw[if_pos h]
theorem zhJ{sep:UInt8}{cur:List UInt8}(h:sep≠92):splitF sep cur [92]=[cur++[92]]:=by unfold splitF;rw[if_neg (fun e=>h e.symm),if_pos rfl]
theorem zh5{sep d:UInt8}{cur t:List UInt8}(h:sep≠92):splitF sep cur (92::d::t)=splitF sep (cur++[92,d]) t:=by rw[splitF,if_neg (fun e=>h e.symm),if_pos rfl]
theorem zh7{sep c:UInt8}{cur t:List UInt8}(h:¬c=sep)(k:¬c=92):splitF sep cur (c::t)=splitF sep (cur++[c]) t:=by conv=>lhs;unfold splitF;rw[if_neg h,if_neg k]
theorem zqH{l:List ByteArray}{x y:ByteArray}:(l++[x]).set l.length y=l++[y]:=by rw[List.set_append_right _ _ (Nat.le_refl _)];simp
theorem zhk{l:List ByteArray}{n:Nat}{x y:ByteArray}(h:n=l.length):(l++[x]).set n y=l++[y]:=by rw[h];exact zqH
theorem zdZ(s:ByteArray)(a b:Nat):bys (s.extract a b)=((bys s).drop a).take (b-a):=Lib.extract_data s a b
theorem zm0(w:World)(y:ByteArray):GrowS w (w.alloc (.cells #[.string y] 9)) (.slice (some ⟨w.heap.size,0,none⟩) 1 1) [y]:=
 ⟨⟨rfl,.inr ⟨w.heap.size,1,#[.string y],rfl,Nat.le_refl _,heap_alloc_new w _,Nat.le_refl _,by simp[maxLen],rfl,rfl⟩⟩,Ext.alloc _ _⟩
theorem znT{a b:UInt8}(h:¬a=b):((a.toNat:Int)==(b.toNat:Int))=false:=by
 rw[beq_eq_false_iff_ne]
 intro e
 exact h (UInt8.toNat_inj.1 (by omega))
theorem zoa{a b:UInt8}(h:a=b):((a.toNat:Int)==(b.toNat:Int))=true:=by rw[h];exact beq_self_eq_true _
theorem zdu{s:ByteArray}{j k:Nat}{p:List UInt8}{r:List UInt8}(h:(bys s).drop j=p++r)(hk:k=j+p.length):s.extract j k=str p:=by
 rw[←zaK (s.extract j k),zdZ,h]
 subst hk
 rw[Nat.add_sub_cancel_left,List.take_left]
theorem zkf(s:ByteArray)(sep:UInt8)(hsep:sep≠92)(w:World)(hs:s.size≤4000000) :
 Calls Tryz.prog 145 #[.string s,.int .u8 (sep.toNat:Int)] w fun e w'=>∃v,e=.returned v∧GrowS w w' v (strs (splitF sep [] (bys s))):=by
 have Hs:=hid hs
 have HSP:=hid hsep
 have tsep:((sep.toNat:Int) != 92)=true:=by
  have h:((sep.toNat:Int)==92)=false:=zav (k:=92) hsep
  rw[bne,h];rfl
 clear hsep
 go_enter Tryz.func145,Tryz.ntmps145
 go_wp2
 go_loopw [5,6] (fun v i wr=>∃(j:Nat) (dn:List (List UInt8)) (cur:List UInt8),j≤s.size∧i=.int .i64 j∧dn.length≤j∧cur.length≤j∧Hid (GrowS w wr v (strs dn++[str cur]))∧Hid (dn++splitF sep cur ((bys s).drop j)=splitF sep [] (bys s))) (fun _ i _=>s.size-(intOf i).toNat)
 case atStart=>exact⟨0,[],[],by omega,rfl,by simp,by simp,zm0 w _,by simp[Hid]⟩
 case round=>
  obtain⟨j,dn,cur,hj,rfl,hdn,hcur,HG,HR⟩:=hrel
  have hn:Hid ((strs dn++[str cur]).length=dn.length+1):=by show _=_;simp
  obtain⟨g,cap,rfl,hg1,hg2,hg3,hg4⟩:=HG.out.form (by rw[hn.out];omega)
  have hc:=hg4 dn.length (by rw[hn.out];omega)
  have hcv:(strs dn++[str cur])[dn.length]?.getD ByteArray.empty=str cur:=by
   have:dn.length=(strs dn).length:=by simp
   rw[this,List.getElem?_append_right (Nat.le_refl _)]
   simp
  rw[hcv] at hc
  have hcap:Hid (dn.length+1≤cap∧cap≤maxLen):=by show _∧_;rw[hn.out] at hg2;exact⟨hg2,hg3⟩
  rw[hn.out] at HG
  rw[hn.out]
  clear hg2 hg3 hg4 hcv
  by_cases hlt:j<s.size
  ·obtain⟨x,hx⟩:∃x,(bys s)[j]?=some x:=⟨_,List.getElem?_eq_getElem (by rw[zaj];exact hlt)⟩
   have gx:=zaV hx hlt
   have hd:Hid ((bys s).drop j=x::(bys s).drop (j+1)):=by
    show _=_
    obtain⟨h1,h2⟩:=List.getElem?_eq_some_iff.1 hx
    rw[List.drop_eq_getElem_cons h1,h2]
   clear hx
   by_cases hxs:x=sep
   ·have t1:=zoa hxs
    have HH:Hid ((dn++[cur])++splitF sep [] ((bys s).drop (j+1))=splitF sep [] (bys s)):=by show _=_;rw[←HR.out,hd.out,zix hxs];simp
    clear hxs
    go_wp2_with(at_builtin;refine zct rfl _ _ rfl _ _ rfl HG.out rfl (by rw[hn.out];omega) ?_;intro v' w3 hg3;have HG3:=hid hg3;clear hg3)
    exact⟨⟨j+1,dn++[cur],[],by omega,by go_num,by simp;omega,by simp,by rw[show strs (dn++[cur])=strs dn++[str cur] by simp];exact HG3,HH⟩,by simp[intOf];omega⟩
   ·have t1:=znT hxs
    by_cases h92:x=92
    ·have t2:((x.toNat:Int)==92)=true:=za0 (k:=92) (by decide) h92
     by_cases hl:j+1<s.size
     ·obtain⟨y,hy⟩:∃y,(bys s)[j+1]?=some y:=⟨_,List.getElem?_eq_getElem (by rw[zaj];exact hl)⟩
      have hd2:(bys s).drop (j+1)=y::(bys s).drop (j+1+1):=by
       obtain⟨h1,h2⟩:=List.getElem?_eq_some_iff.1 hy
       rw[List.drop_eq_getElem_cons h1,h2]
      have hp:s.extract j (j+2)=str [x,y]:=zdu (r:=(bys s).drop (j+2)) (by rw[hd.out,hd2];rfl) rfl
      have HH:Hid (dn++splitF sep (cur++[x,y]) ((bys s).drop (j+2))=splitF sep [] (bys s)):=by show _=_;rw[←HR.out,hd.out,hd2,h92,zh5 HSP.out]
      have z1:¬9223372036854775807<cur.length+2:=by omega
      have z2:min ((j:Int)+2) (s.size:Int)=(j:Int)+2:=by omega
      have z3:(j:Int)+2≤(s.size:Int):=by omega
      have z4:(j:Int)≤(j:Int)+2:=by omega
      have z5:((j:Int)+2).toNat=j+2:=by omega
      clear hxs h92 hd2 hy
      have zl:(dn.length:Int)<(dn.length:Int)+1:=by omega
      go_wp2
      refine zap w.heap.size (.read 0 (.read 1 (.read 2 (.read 3 (.read 4 (.read 6 (.read 7 (.read 8 (.read 9 (.main 5 (.read 10 (.read 11 (.main 12 .done))))))))))))) (by kernel_rfl) (by kernel_rfl) ?_
      intro wD hxD
      have XB:Hid (Below w.heap.size wD wD):=Below.refl _ _
      have HC:=hid (zaa hc _ hxD)
      have HGD:=hid (HG.out.later hxD)
      repeat' ((first
       |refine zaF rfl rfl ?_
       |refine zaw rfl rfl ?_
       |refine walksB_skip rfl rfl ?_
       |refine walksB_unwanted rfl rfl ?_
       |(refine zaC (v:=?_) rfl rfl (fun w' hE=>?_) ?_;rotate_left 1;(· ((try(have hEx:=Below.trans (Hid.out XB) hE));go_simp;(try go_bits);with_reducible rfl)))
       |(refine zam rfl rfl (fun K hK=>?_);(first|(refine zbs 9 (.tmp 42) rfl ⟨g,dn.length,none⟩ rfl (.string (str cur)) HC.out Tryz.isAgg9 ?_)|(refine zef (.tmp 49) (.tmp 48) rfl g dn.length _ cap rfl (str cur++str [x,y]) rfl _ HGD.out hn.out.symm (by rw[hn.out];omega) ?_;intro w6 hg6 hb6;have HG6:=hid hg6;clear hg6;replace XB:=hid (Below.trans (Hid.out XB) (hb6))));refine hK _ _ (by first|assumption|exact Below.refl _ _|exact Below.mono (Ext.alloc _ _) (Hid.out HSW)|exact Below.setCell (p:=⟨_,_,_⟩) (Below.refl _ _) (Nat.le_refl _) _) ?_;clear hK K)
       |refine zaL ?_ ?_
       | (refine zam rfl rfl (fun K hK=>?_);go_wp2_with (fail);refine hK _ _ (by first | assumption | exact Below.refl _ _ | exact Below.mono (Ext.alloc _ _) (Hid.out HSW) | exact Below.setCell (p:=⟨_,_,_⟩) (Below.refl _ _) (Nat.le_refl _) _) ?_;clear hK K));try simp only [Act.put,Act.eval,evs])
      refine zaG ?_
      have HG7:Hid (GrowS w w6 (.slice (some ⟨g,0,none⟩) (dn.length+1) cap) (strs dn++[str (cur++[x,y])])):=by
       have h:=HG6.out
       rw[zbh,zhk (by simp)] at h
       exact h
      clear HG6 HC HGD
      go_wp2
      exact⟨⟨j+2,dn,cur++[x,y],by omega,by go_num,by omega,by simp;omega,HG7,HH⟩,by simp[intOf];omega⟩
     ·have hnil:(bys s).drop (j+1)=[]:=List.drop_eq_nil_of_le (by rw[zaj];omega)
      have hp:s.extract j s.size=str [x]:=zdu (r:=(bys s).drop (j+1)) hd.out (by simp;omega)
      have HH:Hid (dn++splitF sep (cur++[x]) ((bys s).drop (j+1))=splitF sep [] (bys s)):=by show _=_;rw[←HR.out,hd.out,hnil,h92,zhJ HSP.out];rfl
      have z1:¬9223372036854775807<cur.length+1:=by omega
      have z2:min ((j:Int)+2) (s.size:Int)=(s.size:Int):=by omega
      clear hxs h92 hnil
      have zl:(dn.length:Int)<(dn.length:Int)+1:=by omega
      go_wp2
      refine zap w.heap.size (.read 0 (.read 1 (.read 2 (.read 3 (.read 4 (.read 6 (.read 7 (.read 8 (.read 9 (.main 5 (.read 10 (.read 11 (.main 12 .done))))))))))))) (by kernel_rfl) (by kernel_rfl) ?_
      intro wD hxD
      have XB:Hid (Below w.heap.size wD wD):=Below.refl _ _
      have HC:=hid (zaa hc _ hxD)
      have HGD:=hid (HG.out.later hxD)
      repeat' ((first
       |refine zaF rfl rfl ?_
       |refine zaw rfl rfl ?_
       |refine walksB_skip rfl rfl ?_
       |refine walksB_unwanted rfl rfl ?_
       |(refine zaC (v:=?_) rfl rfl (fun w' hE=>?_) ?_;rotate_left 1;(· ((try(have hEx:=Below.trans (Hid.out XB) hE));go_simp;(try go_bits);with_reducible rfl)))
       |(refine zam rfl rfl (fun K hK=>?_);(first|(refine zbs 9 (.tmp 42) rfl ⟨g,dn.length,none⟩ rfl (.string (str cur)) HC.out Tryz.isAgg9 ?_)|(refine zef (.tmp 49) (.tmp 48) rfl g dn.length _ cap rfl (str cur++str [x]) rfl _ HGD.out hn.out.symm (by rw[hn.out];omega) ?_;intro w6 hg6 hb6;have HG6:=hid hg6;clear hg6;replace XB:=hid (Below.trans (Hid.out XB) (hb6))));refine hK _ _ (by first|assumption|exact Below.refl _ _|exact Below.mono (Ext.alloc _ _) (Hid.out HSW)|exact Below.setCell (p:=⟨_,_,_⟩) (Below.refl _ _) (Nat.le_refl _) _) ?_;clear hK K)
       |refine zaL ?_ ?_
       | (refine zam rfl rfl (fun K hK=>?_);go_wp2_with (fail);refine hK _ _ (by first | assumption | exact Below.refl _ _ | exact Below.mono (Ext.alloc _ _) (Hid.out HSW) | exact Below.setCell (p:=⟨_,_,_⟩) (Below.refl _ _) (Nat.le_refl _) _) ?_;clear hK K));try simp only [Act.put,Act.eval,evs])
      refine zaG ?_
      have HG7:Hid (GrowS w w6 (.slice (some ⟨g,0,none⟩) (dn.length+1) cap) (strs dn++[str (cur++[x])])):=by
       have h:=HG6.out
       rw[zbh,zhk (by simp)] at h
       exact h
      clear HG6 HC HGD
      go_wp2
      exact⟨⟨j+1,dn,cur++[x],by omega,by go_num,by omega,by simp;omega,HG7,HH⟩,by simp[intOf];omega⟩
    ·have t2:((x.toNat:Int)==92)=false:=zav (k:=92) h92
     have hp:s.extract j (j+1)=str [x]:=zdu (r:=(bys s).drop (j+1)) hd.out rfl
     have HH:Hid (dn++splitF sep (cur++[x]) ((bys s).drop (j+1))=splitF sep [] (bys s)):=by show _=_;rw[←HR.out,hd.out,zh7 hxs h92]
     have z1:¬9223372036854775807<cur.length+1:=by omega
     have z3:(j:Int)+1≤(s.size:Int):=by omega
     have z4:(j:Int)≤(j:Int)+1:=by omega
     have z5:((j:Int)+1).toNat=j+1:=by omega
     clear hxs h92
     have zl:(dn.length:Int)<(dn.length:Int)+1:=by omega
     go_wp2
     refine zap w.heap.size (.read 0 (.read 1 (.read 2 (.read 3 (.read 4 (.read 6 (.read 7 (.read 8 (.read 9 (.main 5 (.read 10 (.read 11 (.main 12 .done))))))))))))) (by kernel_rfl) (by kernel_rfl) ?_
     intro wD hxD
     have XB:Hid (Below w.heap.size wD wD):=Below.refl _ _
     have HC:=hid (zaa hc _ hxD)
     have HGD:=hid (HG.out.later hxD)
     repeat' ((first
      |refine zaF rfl rfl ?_
      |refine zaw rfl rfl ?_
      |refine walksB_skip rfl rfl ?_
      |refine walksB_unwanted rfl rfl ?_
      |(refine zaC (v:=?_) rfl rfl (fun w' hE=>?_) ?_;rotate_left 1;(· ((try(have hEx:=Below.trans (Hid.out XB) hE));go_simp;(try go_bits);with_reducible rfl)))
      |(refine zam rfl rfl (fun K hK=>?_);(first|(refine zbs 9 (.tmp 42) rfl ⟨g,dn.length,none⟩ rfl (.string (str cur)) HC.out Tryz.isAgg9 ?_)|(refine zef (.tmp 49) (.tmp 48) rfl g dn.length _ cap rfl (str cur++str [x]) rfl _ HGD.out hn.out.symm (by rw[hn.out];omega) ?_;intro w6 hg6 hb6;have HG6:=hid hg6;clear hg6;replace XB:=hid (Below.trans (Hid.out XB) (hb6))));refine hK _ _ (by first|assumption|exact Below.refl _ _|exact Below.mono (Ext.alloc _ _) (Hid.out HSW)|exact Below.setCell (p:=⟨_,_,_⟩) (Below.refl _ _) (Nat.le_refl _) _) ?_;clear hK K)
      |refine zaL ?_ ?_
      | (refine zam rfl rfl (fun K hK=>?_);go_wp2_with (fail);refine hK _ _ (by first | assumption | exact Below.refl _ _ | exact Below.mono (Ext.alloc _ _) (Hid.out HSW) | exact Below.setCell (p:=⟨_,_,_⟩) (Below.refl _ _) (Nat.le_refl _) _) ?_;clear hK K));try simp only [Act.put,Act.eval,evs])
     refine zaG ?_
     have HG7:Hid (GrowS w w6 (.slice (some ⟨g,0,none⟩) (dn.length+1) cap) (strs dn++[str (cur++[x])])):=by
      have h:=HG6.out
      rw[zbh,zhk (by simp)] at h
      exact h
     clear HG6 HC HGD
     go_wp2
     exact⟨⟨j+1,dn,cur++[x],by omega,by go_num,by omega,by simp;omega,HG7,HH⟩,by simp[intOf];omega⟩
  ·obtain rfl:j=s.size:=by omega
   have HH:Hid (strs (splitF sep [] (bys s))=strs dn++[str cur]):=by
    show _=_
    rw[←HR.out,show(bys s).drop s.size=[] from List.drop_eq_nil_of_le (by rw[zaj];omega)]
    simp[splitF]
   go_wp2
   go_ret
   refine⟨_,rfl,?_⟩
   rw[HH.out]
   exact HG.out
theorem zio(s:ByteArray)(sep:UInt8)(hsep:sep≠92)(w:World)(hs:s.size≤4000000) :
 Calls Tryz.prog 132 #[.string s,.int .u8 (sep.toNat:Int)] w fun e w'=>∃v,e=.returned v∧GrowS w w' v (strs (splitF sep [] (bys s))):=by
 have Hs:=hid hs
 have HSP:=hid hsep
 clear hsep
 go_enter Tryz.func132,Tryz.ntmps132
 go_wp2
 go_loopw [5,6,7] (fun v f i wr=>∃(j k:Nat) (dn:List (List UInt8)) (cur:List UInt8),j≤s.size+1∧i=.int .i64 j∧f=.int .i64 k∧k≤s.size∧(j≤s.size→k≤j)∧dn.length≤j∧Hid (GrowS w wr v (strs dn))∧Hid (j≤s.size→s.extract k j=str cur∧dn++splitF sep cur ((bys s).drop j)=splitF sep [] (bys s))∧Hid (s.size<j→dn++[bys (s.extract k s.size)]=splitF sep [] (bys s))) (fun _ _ i _=>s.size+1-(intOf i).toNat)
 case atStart=>exact⟨0,0,[],[],by omega,rfl,rfl,by omega,by omega,by simp,GrowS.nil (Ext.refl _),fun _=>⟨zdu (s:=s) (p:=[]) (r:=bys s) (by simp) rfl,by simp⟩,fun h=>absurd h (by omega)⟩
 case round=>
  obtain⟨j,k,dn,cur,hj,rfl,rfl,hk,hkj,hdn,HG,HR,HE⟩:=hrel
  by_cases hlt:j<s.size
  ·obtain⟨hpc,hR⟩:=HR.out (by omega)
   have HPC:=hid hpc
   have HRR:=hid hR
   have hkj':=hkj (by omega)
   obtain⟨x,hx⟩:∃x,(bys s)[j]?=some x:=⟨_,List.getElem?_eq_getElem (by rw[zaj];exact hlt)⟩
   have gx:=zaV hx hlt
   have hd:Hid ((bys s).drop j=x::(bys s).drop (j+1)):=by
    show _=_
    obtain⟨h1,h2⟩:=List.getElem?_eq_some_iff.1 hx
    rw[List.drop_eq_getElem_cons h1,h2]
   have hgrow:∀(p:List UInt8) (r:List UInt8) (m:Nat),(bys s).drop j=p++r→m=j+p.length→s.extract k m=str (cur++p):=by
    intro p r m h1 h2
    have h3:(bys s).drop k=cur++(bys s).drop j:=by
     have h4:bys (s.extract k j)=cur:=by rw[hpc,zao]
     rw[zdZ] at h4
     have h5:=List.take_append_drop (j-k) ((bys s).drop k)
     rw[h4,List.drop_drop] at h5
     rw[←h5]
     congr 2
     omega
    have hl:cur.length=j-k:=by
     have h4:bys (s.extract k j)=cur:=by rw[hpc,zao]
     rw[←h4,zdZ,List.length_take,List.length_drop,zaj]
     omega
    exact zdu (r:=r) (by rw[h3,h1,List.append_assoc]) (by rw[List.length_append,hl];omega)
   have HGW:=hid hgrow
   clear hx hpc hR hkj hgrow
   by_cases h92:x=92
   ·have t2:((x.toNat:Int)==92)=true:=za0 (k:=92) (by decide) h92
    have hfin:Hid ((j+2≤s.size→∃cur',s.extract k (j+2)=str cur'∧dn++splitF sep cur' ((bys s).drop (j+2))=splitF sep [] (bys s))∧(s.size<j+2→dn++[bys (s.extract k s.size)]=splitF sep [] (bys s))):=by
     constructor
     ·intro hl
      obtain⟨y,hy⟩:∃y,(bys s)[j+1]?=some y:=⟨_,List.getElem?_eq_getElem (by rw[zaj];omega)⟩
      have hd2:(bys s).drop (j+1)=y::(bys s).drop (j+2):=by
       obtain⟨h1,h2⟩:=List.getElem?_eq_some_iff.1 hy
       rw[List.drop_eq_getElem_cons h1,h2]
      refine⟨cur++[x,y],HGW.out [x,y] ((bys s).drop (j+2)) (j+2) (by rw[hd.out,hd2];rfl) rfl,?_⟩
      rw[←HRR.out,hd.out,hd2,h92,zh5 HSP.out]
     ·intro hl
      have hnil:(bys s).drop (j+1)=[]:=List.drop_eq_nil_of_le (by rw[zaj];omega)
      rw[HGW.out [x] [] s.size (by rw[hd.out,hnil];rfl) (by simp;omega),zao,←HRR.out,hd.out,hnil,h92,zhJ HSP.out]
    clear h92
    go_wp2
    refine⟨⟨j+2,k,dn,(bys (s.extract k (j+2))),by omega,by go_num,rfl,hk,by omega,by omega,HG,?_,?_⟩,by simp[intOf];omega⟩
    ·intro hl
     obtain⟨c',h1,h2⟩:=hfin.out.1 hl
     rw[h1,zao]
     exact⟨rfl,h2⟩
    ·exact fun hl=>hfin.out.2 hl
   ·have t2:((x.toNat:Int)==92)=false:=zav (k:=92) h92
    by_cases hxs:x=sep
    ·have t1:=zoa hxs
     have hp:=HPC.out
     have z3:(j:Int)≤(s.size:Int):=by omega
     have z4:(k:Int)≤(j:Int):=by omega
     have HH:Hid ((dn++[cur])++splitF sep [] ((bys s).drop (j+1))=splitF sep [] (bys s)):=by show _=_;rw[←HRR.out,hd.out,zix hxs];simp
     clear hxs h92
     go_wp2_with(at_builtin;refine zct rfl _ _ rfl _ _ rfl HG.out rfl (by simp;omega) ?_;intro v' w3 hg3;have HG3:=hid hg3;clear hg3)
     refine⟨⟨j+1,j+1,dn++[cur],[],by omega,by go_num,by go_num,by omega,by omega,by simp;omega,?_,fun _=>⟨zdu (p:=[]) (r:=(bys s).drop (j+1)) rfl rfl,HH⟩,fun h=>absurd h (by omega)⟩,by simp[intOf];omega⟩
     rw[show strs (dn++[cur])=strs dn++[str cur] by simp]
     exact HG3
    ·have t1:=znT hxs
     have HH:Hid (dn++splitF sep (cur++[x]) ((bys s).drop (j+1))=splitF sep [] (bys s)):=by show _=_;rw[←HRR.out,hd.out,zh7 hxs h92]
     have HP:Hid (s.extract k (j+1)=str (cur++[x])):=HGW.out [x] ((bys s).drop (j+1)) (j+1) hd.out rfl
     clear hxs h92
     go_wp2
     exact⟨⟨j+1,k,dn,cur++[x],by omega,by go_num,rfl,hk,by omega,by omega,HG,fun _=>⟨HP,HH⟩,fun h=>absurd h (by omega)⟩,by simp[intOf];omega⟩
  ·have HF:Hid (dn++[bys (s.extract k s.size)]=splitF sep [] (bys s)):=by
    rcases Nat.lt_or_ge s.size j with h|h
    ·exact HE.out h
    ·obtain rfl:j=s.size:=by omega
     obtain⟨h1,h2⟩:=HR.out (Nat.le_refl _)
     rw[h1,zao]
     show _=_
     rw[←h2,show(bys s).drop s.size=[] from List.drop_eq_nil_of_le (by rw[zaj];omega)]
     simp[splitF]
   have z4:(k:Int)≤(s.size:Int):=by omega
   have HD:=hid hdn
   clear HE HR hkj
   go_wp2_with(at_builtin;refine zct rfl _ _ rfl _ _ rfl HG.out rfl (by have:=HD.out;simp;omega) ?_;intro v' w3 hg3;have HG3:=hid hg3;clear hg3)
   go_ret
   refine⟨_,rfl,?_⟩
   rw[←HF.out,show strs (dn++[bys (s.extract k s.size)])=strs dn++[s.extract k s.size] by simp[zaK]]
   exact HG3.out
theorem zrI(x:UInt8):zbq x=(((x.toNat:Int)==44) || ((x.toNat:Int)==43) || ((x.toNat:Int)==34) || ((x.toNat:Int)==92) || ((x.toNat:Int)==60) || ((x.toNat:Int)==62) || ((x.toNat:Int)==59)):=by
 obtain⟨n,rfl⟩:∃n:Fin 256,x=UInt8.ofFin n:=⟨x.toFin,rfl⟩
 revert n
 decide +kernel
theorem za1(x:UInt8)(w:World):Calls Tryz.prog 162 #[.int .u8 (x.toNat:Int)] w fun e w'=>e=.returned (.bool (zbq x))∧w=w':=by
 have HS:=hid (zrI x)
 generalize (x.toNat:Int)=z at*
 go_enter Tryz.func162,Tryz.ntmps162
 go_wp2
 all_goals go_ret
 all_goals exact⟨by rw[HS.out];simp[*],rfl⟩
def hexZ(x:UInt8):Int:=match hexB x with|some a=>(a:Int)|none=>-1
theorem zsw(x:UInt8):hexZ x=if 48≤(x.toNat:Int)∧(x.toNat:Int)≤57 then(x.toNat:Int)-48 else if 97≤(x.toNat:Int)∧(x.toNat:Int)≤102 then(x.toNat:Int)-97+10 else if 65≤(x.toNat:Int)∧(x.toNat:Int)≤70 then(x.toNat:Int)-65+10 else -1:=by
 obtain⟨n,rfl⟩:∃n:Fin 256,x=UInt8.ofFin n:=⟨x.toFin,rfl⟩
 revert n
 decide +kernel
theorem zdE(x:UInt8)(w:World):Calls Tryz.prog 208 #[.int .u8 (x.toNat:Int)] w fun e w'=>e=.returned (.int .i64 (hexZ x))∧w=w':=by
 have hx1:(x.toNat:Int)<256:=by have:=x.toNat_lt;omega
 have hx0:0≤(x.toNat:Int):=by omega
 have HS:=hid (zsw x)
 generalize (x.toNat:Int)=z at*
 by_cases h1:48≤z
 ·by_cases h2:z≤57
  ·have HF:Hid (hexZ x=z-48):=by show _=_;rw[HS.out,if_pos ⟨h1,h2⟩]
   go_enter Tryz.func208,Tryz.ntmps208
   go_wp2
   go_ret
   exact⟨by rw[HF.out];rfl,rfl⟩
  ·by_cases h3:97≤z
   ·by_cases h4:z≤102
    have HF:Hid (hexZ x=z-97+10):=by show _=_;rw[HS.out,if_neg (by omega),if_pos ⟨h3,h4⟩]
    rotate_left
    have HF:Hid (hexZ x = -1):=by show _=_;rw[HS.out,if_neg (by omega),if_neg (by omega),if_neg (by omega)]
    have h5:65≤z:=by omega
    have h6:¬z≤70:=by omega
    rotate_left
    all_goals
     go_enter Tryz.func208,Tryz.ntmps208
     go_wp2
     go_ret
     exact⟨by rw[HF.out];rfl,rfl⟩
   ·by_cases h5:65≤z
    ·by_cases h6:z≤70
     have HF:Hid (hexZ x=z-65+10):=by show _=_;rw[HS.out,if_neg (by omega),if_neg (by omega),if_pos ⟨h5,h6⟩]
     rotate_left
     have HF:Hid (hexZ x = -1):=by show _=_;rw[HS.out,if_neg (by omega),if_neg (by omega),if_neg (by omega)]
     rotate_left
     all_goals
      go_enter Tryz.func208,Tryz.ntmps208
      go_wp2
      go_ret
      exact⟨by rw[HF.out];rfl,rfl⟩
    ·have HF:Hid (hexZ x = -1):=by show _=_;rw[HS.out,if_neg (by omega),if_neg (by omega),if_neg (by omega)]
     go_enter Tryz.func208,Tryz.ntmps208
     go_wp2
     go_ret
     exact⟨by rw[HF.out];rfl,rfl⟩
 ·have h3:¬97≤z:=by omega
  have h5:¬65≤z:=by omega
  have HF:Hid (hexZ x = -1):=by show _=_;rw[HS.out,if_neg (by omega),if_neg (by omega),if_neg (by omega)]
  go_enter Tryz.func208,Tryz.ntmps208
  go_wp2
  go_ret
  exact⟨by rw[HF.out];rfl,rfl⟩
theorem zqi(x:UInt8):Lib.indexByte [48,49,50,51,52,53,54,55,56,57,97,98,99,100,101,102] (loB x)=hexZ x:=by
 obtain⟨n,rfl⟩:∃n:Fin 256,x=UInt8.ofFin n:=⟨x.toFin,rfl⟩
 revert n
 decide +kernel
theorem zbn(x:UInt8)(w:World):Calls Tryz.prog 203 #[.int .u8 (x.toNat:Int)] w fun e w'=>e=.returned (.int .i64 (hexZ x))∧Ext w w':=by
 have hC:=(zdF w x).conv _ (Ext.refl _)
 have hz:0<(str (zas [x])).size:=Nat.one_pos
 have g0:(str (zas [x]))[0]'hz=loB x:=rfl
 go_enter Tryz.func203,Tryz.ntmps203
 go_wp2_with (first
  |(go_at_call 121;(with_reducible refine(zdo (str [x]) _ (by simp[maxLen,zaI])).mono ?_);rintro e w1 ⟨he,hx1⟩;rw[zao] at he;subst he;have HX1:=hid hx1;clear hx1)
  | (go_at_call 182;(with_reducible refine (zkA _ _ (loB x) (zbr _) (hexZ x) (zqi x) _).mono ?_);rintro e w2 ⟨rfl,rfl⟩))
 go_ret
 exact⟨rfl,(Ext.alloc _ _).trans HX1.out⟩
theorem zeV{acc t:List UInt8}{c:UInt8}(h:c≠92):readF acc (c::t)=if(c==0 || zbq c || (c==32&&t.isEmpty))=true then none else readF (acc++[c]) t:=by
 conv=>lhs;unfold readF
 rw[if_neg h]
theorem zg2(acc:List UInt8):readF acc [92]=none:=by unfold readF;rw[if_pos rfl]
def zhV(d:UInt8):Bool:=zbq d || d==35 || d==61 || d==32
theorem zfL{acc t:List UInt8}{d:UInt8}(h:zhV d=true):readF acc (92::d::t)=readF (acc++[d]) t:=by
 conv=>lhs;unfold readF
 rw[if_pos rfl]
 exact if_pos h
theorem zfV{acc:List UInt8}{d:UInt8}(h:zhV d=false):readF acc [92,d]=none:=by
 conv=>lhs;unfold readF
 rw[if_pos rfl]
 exact if_neg (by rw[show(zbq d || d==35 || d==61 || d==32)=zhV d from rfl,h];decide)
theorem zgQ{acc t:List UInt8}{d e:UInt8}(h:zhV d=false):readF acc (92::d::e::t)=match hexB d,hexB e with|some a,some b=>readF (acc++[UInt8.ofNat (16 * a+b)]) t|_,_=>none:=by
 conv=>lhs;unfold readF
 rw[if_pos rfl]
 exact if_neg (by rw[show(zbq d || d==35 || d==61 || d==32)=zhV d from rfl,h];decide)
theorem zem{x:UInt8}(h:hexZ x<0):hexB x=none:=by
 unfold hexZ at h
 cases hb:hexB x with
 |none=>rfl
 |some a=>rw[hb] at h;simp at h;omega
theorem zr5{x:UInt8}{a:Nat}(h:hexB x=some a):a<16:=by
 unfold hexB at h
 split at h
 ·injection h;omega
 ·split at h
  ·injection h;omega
  ·split at h
   ·injection h;omega
   ·cases h
theorem zeB{x:UInt8}(h:¬hexZ x<0):∃a:Nat,hexB x=some a∧hexZ x=a∧a<16:=by
 unfold hexZ at h ⊢
 cases hb:hexB x with
 |none=>rw[hb] at h;simp at h
 |some a=>exact⟨a,rfl,rfl,zr5 hb⟩
theorem zro:∀a<16,∀b<16,bits BinOp.or IntKind.i64 ((16 * a:Nat):Int) ((b:Nat):Int)=((16 * a+b:Nat):Int):=by decide +kernel
theorem zex:∀x:UInt8,zbq x=true↔x∈([44,43,34,92,60,62,59]:List UInt8):=by
 intro x
 obtain⟨n,rfl⟩:∃n:Fin 256,x=UInt8.ofFin n:=⟨x.toFin,rfl⟩
 revert n
 decide +kernel
theorem zfp:∀x:UInt8,zhV x=true↔x∈([44,43,34,92,60,62,59,35,61,32]:List UInt8):=by
 intro x
 obtain⟨n,rfl⟩:∃n:Fin 256,x=UInt8.ofFin n:=⟨x.toFin,rfl⟩
 revert n
 decide +kernel
def zfS(w:World)(r:Option (List UInt8))(e:Ending)(w':World):Prop:=e=.returned (.tuple #[.string (str (r.getD [])),.bool r.isSome])∧Ext w w'
theorem zcO{s:ByteArray}{j:Nat}{x:UInt8}(h:(bys s)[j]?=some x):(bys s).drop j=x::(bys s).drop (j+1):=by
 obtain⟨h1,h2⟩:=List.getElem?_eq_some_iff.1 h
 rw[List.drop_eq_getElem_cons h1,h2]
theorem zcm{s:ByteArray}{j:Nat}(h:j<s.size):∃x,(bys s)[j]?=some x:=⟨_,List.getElem?_eq_getElem (by rw[zaj];exact h)⟩
theorem zbP{s:ByteArray}{j:Nat}(h:s.size≤j):(bys s).drop j=[]:=List.drop_eq_nil_of_le (by rw[zaj];exact h)
def escI(z:Int)(b0 bL sp:Bool):Bool:=((z==32)&&(b0 || bL)) || ((z==35)&&b0) || sp
def zeH(c:UInt8)(b0 bL:Bool):List UInt8:=
 if escI (c.toNat:Int) b0 bL (zbq c)=true then[92,c] else if(c.toNat:Int)<32∨126<(c.toNat:Int) then[92,zbp (c.toNat / 16),zbp (c.toNat % 16)] else[c]
theorem zg5(b0:Bool)(c:UInt8)(t:List UInt8):zaA b0 (c::t)=zeH c b0 t.isEmpty++zaA false t:=by
 have e32:((c.toNat:Int)==32)=(c==32):=by
  by_cases h:c=32
  ·rw[show((c.toNat:Int)==32)=true from za0 (k:=32) (by decide) h,h];rfl
  ·rw[show((c.toNat:Int)==32)=false from zav (k:=32) h,beq_eq_false_iff_ne.2 h]
 have e35:((c.toNat:Int)==35)=(c==35):=by
  by_cases h:c=35
  ·rw[show((c.toNat:Int)==35)=true from za0 (k:=35) (by decide) h,h];rfl
  ·rw[show((c.toNat:Int)==35)=false from zav (k:=35) h,beq_eq_false_iff_ne.2 h]
 have eq:((c.toNat:Int)<32∨126<(c.toNat:Int))↔(c.toNat<32∨126<c.toNat):=by omega
 unfold zeH escI
 rw[e32,e35]
 simp only[eq]
 rfl
theorem zjd{k:Nat}(h:k<16):(bys ⟨#[48,49,50,51,52,53,54,55,56,57,97,98,99,100,101,102]⟩)[k]?=some (zbp k):=by
 have hall:∀k<16,(bys ⟨#[48,49,50,51,52,53,54,55,56,57,97,98,99,100,101,102]⟩)[k]?=some (zbp k):=by decide
 exact hall k h
theorem zpJ(x:UInt8):bits BinOp.and IntKind.u8 (x.toNat:Int) 15=((x.toNat % 16:Nat):Int):=by
 obtain⟨n,rfl⟩:∃n:Fin 256,x=UInt8.ofFin n:=⟨x.toFin,rfl⟩
 revert n
 decide +kernel
theorem zkV(w:World)(xs:List UInt8)(n:Nat)(hn:n=xs.length)(hm:n≤maxLen):Sl (w.alloc (.cells (xs.map bv).toArray 5)) (some ⟨w.heap.size,0,none⟩) n n xs:=Sl.of_own (zoS w xs n hn hm 0 (Nat.zero_le _))
theorem zrA(w:World)(x:UInt8):Sl (w.alloc (.cells #[.int .u8 92,.int .u8 (x.toNat:Int)] 5)) (some ⟨w.heap.size,0,none⟩) 2 2 [92,x]:=zkV w [92,x] 2 rfl (by simp[maxLen])
theorem zrG{w:World}{o:Oper}{a:Act}{K:Act→World→Prop}{Q:Exit→Act→World→Prop}(x y:Operand)(ho:o.op=.buildSlice 174 3 #[(0,.const (.int .u8 92)),(1,x),(2,y)])(p q:UInt8)(hx:a.eval x=.int .u8 (p.toNat:Int))(hy:a.eval y=.int .u8 (q.toNat:Int))
 (h:∀w',Ext w w'→Sl w' (some ⟨w.heap.size,0,none⟩) 3 3 [92,p,q]→K (a.put o.dst (.slice (some ⟨w.heap.size,0,none⟩) 3 3)) w'):o.wp Tryz.prog a w K Q:=by
 have hr:(execOp a.eval o).run Tryz.prog w=.ok (.value (.slice (some ⟨w.heap.size,0,none⟩) 3 3)) (w.alloc (.cells #[.int .u8 92,.int .u8 (p.toNat:Int),.int .u8 (q.toNat:Int)] 5)):=by
  unfold execOp
  simp only[ho,List.map_toArray,List.map_cons,List.map_nil,hx,hy]
  kernel_rfl
 unfold Oper.wp
 rw[hr]
 exact h _ (Ext.alloc _ _) (zkV w [92,p,q] 3 rfl (by simp[maxLen]))
theorem ze8{B b:Nat}{xs:List UInt8}(s:ByteArray)(w:World)(hI:IsB B b xs w)(hs:s.size≤4000000)(hl:xs.length≤100000000000000) :
 Calls Tryz.prog 150 #[.pointer (some ⟨b,0,none⟩),.string s] w fun e w'=>e=.returned (.tuple #[])∧IsB B b (xs++zaA true (bys s)) w'∧Kept B b w w':=by
 have Hs:=hid hs
 have HI0:=hid hI
 clear hI
 go_enter Tryz.func150,Tryz.ntmps150
 go_wp2
 go_loopw [9] (fun i wr=>∃(j:Nat) (acc:List UInt8),j≤s.size∧i=.int .i64 j∧acc.length≤3 * j∧Hid (IsB B b (xs++acc) wr∧Kept B b w wr)∧Hid (acc++zaA (decide (j=0)) ((bys s).drop j)=zaA true (bys s))) (fun i _=>s.size-(intOf i).toNat)
 case atStart=>exact⟨0,[],by omega,rfl,by simp,⟨by rw[List.append_nil];exact HI0,Kept.refl _ _ _⟩,rfl⟩
 case round=>
  obtain⟨j,acc,hj,rfl,hacc,HI,HR⟩:=hrel
  by_cases hlt:j<s.size
  ·obtain⟨x,hx⟩:=zcm hlt
   have gx:=zaV hx hlt
   have hd:=zcO hx
   have hx1:(x.toNat:Int)<256:=by have:=x.toNat_lt;omega
   have hx0:0≤(x.toNat:Int):=by omega
   have hemp:((bys s).drop (j+1)).isEmpty=((j:Int)==(s.size:Int)-1):=by
    rw[Bool.eq_iff_iff,List.isEmpty_iff,beq_iff_eq,List.drop_eq_nil_iff,zaj]
    omega
   have h0:decide (j=0)=((j:Int)==0):=by rw[Bool.eq_iff_iff,beq_iff_eq,decide_eq_true_eq];omega
   have hst:acc++zeH x ((j:Int)==0) ((j:Int)==(s.size:Int)-1)++zaA false ((bys s).drop (j+1))=zaA true (bys s):=by
    rw[←HR.out,hd,zg5,hemp,h0,List.append_assoc]
   have hj1:decide (j+1=0)=false:=rfl
   rw[←hj1] at hst
   have HE:Hid (escI (x.toNat:Int) ((j:Int)==0) ((j:Int)==(s.size:Int)-1) (zbq x)=true→(acc++[92,x])++zaA (decide (j+1=0)) ((bys s).drop (j+1))=zaA true (bys s)):=by
    intro h;rw[←hst];unfold zeH;rw[if_pos h]
   have HP:Hid (escI (x.toNat:Int) ((j:Int)==0) ((j:Int)==(s.size:Int)-1) (zbq x)=false→¬((x.toNat:Int)<32∨126<(x.toNat:Int))→(acc++[x])++zaA (decide (j+1=0)) ((bys s).drop (j+1))=zaA true (bys s)):=by
    intro h k;rw[←hst];unfold zeH;rw[if_neg (by rw[h];decide),if_neg k]
   have HX:Hid (escI (x.toNat:Int) ((j:Int)==0) ((j:Int)==(s.size:Int)-1) (zbq x)=false→((x.toNat:Int)<32∨126<(x.toNat:Int))→(acc++[92,zbp (x.toNat / 16),zbp (x.toNat % 16)])++zaA (decide (j+1=0)) ((bys s).drop (j+1))=zaA true (bys s)):=by
    intro h k;rw[←hst];unfold zeH;rw[if_neg (by rw[h];decide),if_pos k]
   clear hx hd hemp h0 hst hj1
   cases hsp:zbq x with
   |true=>
    have HM:=hid ((zex x).1 hsp)
    have HE':Hid ((acc++[92,x])++zaA (decide (j+1=0)) ((bys s).drop (j+1))=zaA true (bys s)):=HE.out (by unfold escI;rw[hsp];simp)
    clear hsp HE HP HX
    generalize hq32:((x.toNat:Int)==32)=b32 at*
    generalize hq35:((x.toNat:Int)==35)=b35 at*
    generalize hq0:((j:Int)==0)=b0 at*
    generalize hqL:((j:Int)==(s.size:Int)-1)=bL at*
    cases b32<;>cases b35<;>cases b0<;>cases bL
    all_goals
     go_wp2_with (first
      |(go_at_call 182;(with_reducible refine(zbY _ _ x (zbr _) _ HM.out).mono ?_);rintro e w4 ⟨⟨i,rfl⟩,rfl⟩;have hi0:0≤(i:Int):=by omega)
      | (go_at_call 183;(with_reducible refine (zf5 _ 2 2 [92,x] (HI.out.1.ext (Ext.alloc _ _)) (zrA _ x) (fun a ha=>by injection ha with ha;subst ha;have:=HI.out.1.lt;show _≠_;simp;omega) (by simp;omega)).mono ?_);rintro e w5 ⟨rfl,hi5,hx5⟩;have HI5:=hid hi5;have HX5:=hid hx5;clear hi5 hx5))
     exact⟨⟨j+1,acc++[92,x],by omega,by go_num,by simp;omega,⟨by rw[←List.append_assoc];exact HI5.out,Kept.trans HI.out.2 (Kept.trans (zdN (Ext.alloc _ _) HI.out.1.le) HX5.out)⟩,HE'⟩,by simp[intOf];omega⟩
   |false=>
    have HM:Hid (x ∉ ([44,43,34,92,60,62,59]:List UInt8)):=fun h=>by have:=(zex x).2 h;rw[hsp] at this;cases this
    rw[hsp] at HE HP HX
    clear hsp
    generalize hq32:((x.toNat:Int)==32)=b32 at*
    generalize hq35:((x.toNat:Int)==35)=b35 at*
    generalize hq0:((j:Int)==0)=b0 at*
    generalize hqL:((j:Int)==(s.size:Int)-1)=bL at*
    have hE2:∀b,escI (x.toNat:Int) b0 bL false=b↔((b32&&(b0 || bL)) || (b35&&b0))=b:=by intro b;unfold escI;rw[hq32,hq35,Bool.or_false]
    rw[hE2] at HE HP HX
    clear hE2
    have hu:(((x.toNat:Int)<32∨126<(x.toNat:Int))∧((x.toNat:Int)<32∨(¬(x.toNat:Int)<32∧126<(x.toNat:Int))))∨(¬((x.toNat:Int)<32∨126<(x.toNat:Int))∧¬(x.toNat:Int)<32∧¬126<(x.toNat:Int)):=by omega
    cases b32<;>cases b35<;>cases b0<;>cases bL
    all_goals first
     | (have HE':=hid (HE.out rfl)
        clear HE HP HX hu
        go_wp2_with (first
         | (go_at_call 183;(with_reducible refine (zf5 _ 2 2 [92,x] (HI.out.1.ext (Ext.alloc _ _)) (zrA _ x) (fun a ha=>by injection ha with ha;subst ha;have:=HI.out.1.lt;show _≠_;simp;omega) (by simp;omega)).mono ?_);rintro e w5 ⟨rfl,hi5,hx5⟩;have HI5:=hid hi5;have HX5:=hid hx5;clear hi5 hx5))
        exact ⟨⟨j+1,acc++[92,x],by omega,by go_num,by simp;omega,⟨by rw [← List.append_assoc];exact HI5.out,Kept.trans HI.out.2 (Kept.trans (zdN (Ext.alloc _ _) HI.out.1.le) HX5.out)⟩,HE'⟩,by simp [intOf];omega⟩)
     | (rcases hu with ⟨hu,hv⟩ | ⟨hu,hu1,hu2⟩
        ·have HX':=hid (HX.out rfl hu)
         clear HE HP HX hu
         obtain⟨k1,hk1⟩:∃k,k=x.toNat / 16:=⟨_,rfl⟩
         obtain⟨k2,hk2⟩:∃k,k=x.toNat % 16:=⟨_,rfl⟩
         have hl1:k1<16:=by omega
         have hl2:k2<16:=by omega
         have g1:=zaV (zjd hl1) hl1
         have g2:=zaV (zjd hl2) hl2
         have hsh:(x.toNat:Int) / 16=(k1:Int):=by omega
         have hand:=zpJ x
         rw[←hk1,←hk2] at HX'
         rw[←hk2] at hand
         have hk1':(k1:Int)<16:=by omega
         have hk2':(k2:Int)<16:=by omega
         generalize zbp k1=d1 at*
         generalize zbp k2=d2 at*
         clear hk1 hk2
         rcases hv with hv|⟨hv,hv2⟩
         all_goals
          go_wp2_with (first
           | (go_at_call 182;(with_reducible refine (zaP _ _ x (zbr _) _ HM.out).mono ?_);rintro e w4 ⟨rfl,rfl⟩))
          refine zap B (.read 0 (.read 1 (.read 2 (.read 3 (.read 4 (.read 5 (.read 6 (.main 7 (.main 8 .done))))))))) (by kernel_rfl) (by kernel_rfl) ?_
          intro wD hxD
          have XB:Hid (Below B wD wD):=Below.refl _ _
          have HID:=hid (HI.out.1.ext hxD)
          have HXD:=hid (Kept.trans HI.out.2 (zdN hxD HI.out.1.le))
          repeat' ((first
           |refine zaF rfl rfl ?_
           |refine zaw rfl rfl ?_
           |refine walksB_skip rfl rfl ?_
           |refine walksB_unwanted rfl rfl ?_
           |(refine zaC (v:=?_) rfl rfl (fun w' hE=>?_) ?_;rotate_left 1;(· ((try(have hEx:=Below.trans (Hid.out XB) hE));go_simp;(try go_bits);with_reducible rfl)))
           |(refine zam rfl rfl (fun K hK=>?_);(first|(refine zrG _ _ rfl d1 d2 rfl rfl ?_;intro w8 hx8 hs8;have hx8':=Below.mono hx8 HID.out.le;have HIE:=hid (HID.out.ext hx8);have HK8:Hid (Kept B b wD w8):=zdN hx8 HID.out.le;have HS8:=hid hs8;have HA8:Hid (∀a,some (⟨wD.heap.size,0,none⟩:Addr)=some a→a.block≠b):=(fun a ha=>by injection ha with ha;subst ha;have:=HID.out.lt;show _≠_;simp;omega);clear hx8 hs8;replace XB:=hid (Below.trans (Hid.out XB) (hx8'))));refine hK _ _ (by first|assumption|exact Below.refl _ _|exact Below.mono (Ext.alloc _ _) (Hid.out HSW)|exact Below.setCell (p:=⟨_,_,_⟩) (Below.refl _ _) (Nat.le_refl _) _) ?_;clear hK K)
           |refine zaL ?_ ?_
           | (refine zam rfl rfl (fun K hK=>?_);go_wp2_with ((go_at_call 183;(with_reducible refine (zf5 _ 3 3 [92,d1,d2] HIE.out HS8.out HA8.out (by simp;omega)).mono ?_);rintro e w9 ⟨rfl,hi9,hk9⟩;have HI9:=hid hi9;have HK9:=hid (Kept.trans HK8.out hk9);have hx9:=hk9.below;clear hi9 hk9;replace XB:=hid (Below.trans (Hid.out XB) (hx9))));refine hK _ _ (by first | assumption | exact Below.refl _ _ | exact Below.mono (Ext.alloc _ _) (Hid.out HSW) | exact Below.setCell (p:=⟨_,_,_⟩) (Below.refl _ _) (Nat.le_refl _) _) ?_;clear hK K));try simp only [Act.put,Act.eval,evs])
          refine zaG ?_
          go_wp2
          exact⟨⟨j+1,acc++[92,d1,d2],by omega,by go_num,by simp;omega,⟨by rw[←List.append_assoc];exact HI9.out,Kept.trans HXD.out HK9.out⟩,HX'⟩,by simp[intOf];omega⟩
        ·have HP':=hid (HP.out rfl hu)
         clear HE HP HX hu
         go_wp2_with (first
          |(go_at_call 182;(with_reducible refine(zaP _ _ x (zbr _) _ HM.out).mono ?_);rintro e w4 ⟨rfl,rfl⟩)
          | (go_at_call 149;(with_reducible refine (zde x HI.out.1 (by simp;omega)).mono ?_);rintro e w5 ⟨rfl,hi5,hx5⟩;have HI5:=hid hi5;have HX5:=hid hx5;clear hi5 hx5))
         exact ⟨⟨j+1,acc++[x],by omega,by go_num,by simp;omega,⟨by rw [← List.append_assoc];exact HI5.out,Kept.trans HI.out.2 HX5.out⟩,HP'⟩,by simp [intOf];omega⟩)
  ·obtain rfl:j=s.size:=by omega
   have HF:Hid (zaA true (bys s)=acc):=by show _=_;rw[←HR.out,zbP (Nat.le_refl _)];simp[zaA]
   go_wp2
   go_end0
   exact⟨rfl,by rw[HF.out];exact HI.out.1,HI.out.2⟩
theorem zsg{w:World}{o:Oper}{a:Act}{K:Act→World→Prop}{Q:Exit→Act→World→Prop}(x y:Operand)(ho:o.op=.buildSlice 174 3 #[(0,.const (.int .u8 92)),(1,x),(2,y)])(p q:UInt8)(hx:a.eval x=.int .u8 (p.toNat:Int))(hy:a.eval y=.int .u8 (q.toNat:Int))
 (h:∀A w',Ext w w'→Sl w' A 3 3 [92,p,q]→K (a.put o.dst (.slice A 3 3)) w'):o.wp Tryz.prog a w K Q:=by
 have hr:(execOp a.eval o).run Tryz.prog w=.ok (.value (.slice (some ⟨w.heap.size,0,none⟩) 3 3)) (w.alloc (.cells #[.int .u8 92,.int .u8 (p.toNat:Int),.int .u8 (q.toNat:Int)] 5)):=by
  unfold execOp
  simp only[ho,List.map_toArray,List.map_cons,List.map_nil,hx,hy]
  kernel_rfl
 unfold Oper.wp
 rw[hr]
 exact h _ _ (Ext.alloc _ _) (zkV w [92,p,q] 3 rfl (by simp[maxLen]))
theorem zmN(s:ByteArray)(w:World)(hs:s.size≤4000000):Calls Tryz.prog 136 #[.string s] w fun e w'=>e=.returned (.string (str (zaA true (bys s))))∧Ext w w':=by
 have Hs:=hid hs
 go_enter Tryz.func136,Tryz.ntmps136
 go_wp2
 go_loopw [3,4] (fun v i wr=>∃(j:Nat) (acc:List UInt8),j≤s.size∧i=.int .i64 j∧acc.length≤3 * j∧Hid (GrowB w wr v acc)∧Hid (acc++zaA (decide (j=0)) ((bys s).drop j)=zaA true (bys s))) (fun _ i _=>s.size-(intOf i).toNat)
 case atStart=>exact⟨0,[],by omega,rfl,by simp,GrowB.nil (Ext.refl _),rfl⟩
 case round=>
  obtain⟨j,acc,hj,rfl,hacc,HG,HR⟩:=hrel
  by_cases hlt:j<s.size
  ·obtain⟨x,hx⟩:=zcm hlt
   have gx:=zaV hx hlt
   have hd:=zcO hx
   have hx1:(x.toNat:Int)<256:=by have:=x.toNat_lt;omega
   have hx0:0≤(x.toNat:Int):=by omega
   have hemp:((bys s).drop (j+1)).isEmpty=((j:Int)==(s.size:Int)-1):=by
    rw[Bool.eq_iff_iff,List.isEmpty_iff,beq_iff_eq,List.drop_eq_nil_iff,zaj]
    omega
   have h0:decide (j=0)=((j:Int)==0):=by rw[Bool.eq_iff_iff,beq_iff_eq,decide_eq_true_eq];omega
   have hst:acc++zeH x ((j:Int)==0) ((j:Int)==(s.size:Int)-1)++zaA false ((bys s).drop (j+1))=zaA true (bys s):=by
    rw[←HR.out,hd,zg5,hemp,h0,List.append_assoc]
   have hj1:decide (j+1=0)=false:=rfl
   rw[←hj1] at hst
   have HE:Hid (escI (x.toNat:Int) ((j:Int)==0) ((j:Int)==(s.size:Int)-1) (zbq x)=true→(acc++[92,x])++zaA (decide (j+1=0)) ((bys s).drop (j+1))=zaA true (bys s)):=by
    intro h;rw[←hst];unfold zeH;rw[if_pos h]
   have HP:Hid (escI (x.toNat:Int) ((j:Int)==0) ((j:Int)==(s.size:Int)-1) (zbq x)=false→¬((x.toNat:Int)<32∨126<(x.toNat:Int))→(acc++[x])++zaA (decide (j+1=0)) ((bys s).drop (j+1))=zaA true (bys s)):=by
    intro h k;rw[←hst];unfold zeH;rw[if_neg (by rw[h];decide),if_neg k]
   have HX:Hid (escI (x.toNat:Int) ((j:Int)==0) ((j:Int)==(s.size:Int)-1) (zbq x)=false→((x.toNat:Int)<32∨126<(x.toNat:Int))→(acc++[92,zbp (x.toNat / 16),zbp (x.toNat % 16)])++zaA (decide (j+1=0)) ((bys s).drop (j+1))=zaA true (bys s)):=by
    intro h k;rw[←hst];unfold zeH;rw[if_neg (by rw[h];decide),if_pos k]
   clear hx hd hemp h0 hst hj1
   cases hsp:zbq x with
   |true=>
    have HSP:=hid hsp
    have HE':Hid ((acc++[92,x])++zaA (decide (j+1=0)) ((bys s).drop (j+1))=zaA true (bys s)):=HE.out (by unfold escI;rw[hsp];simp)
    clear hsp HE HP HX
    go_wp2_with (first
     |(go_at_call 162;(with_reducible refine(za1 x _).mono ?_);rintro e w4 ⟨he4,rfl⟩;rw[HSP.out] at he4;subst he4)
     | (at_builtin;refine zbu rfl _ _ rfl _ _ rfl (HG.out.later (Ext.alloc _ _)) _ 2 2 [92,x] rfl (zkV _ [92,x] 2 rfl (by simp [maxLen])) (by omega) ?_;intro v' w5 hg5;have HG5:=hid hg5;clear hg5))
    exact⟨⟨j+1,_,by omega,by go_num,by simp;omega,HG5,HE'⟩,by simp[intOf];omega⟩
   |false=>
    have HSP:=hid hsp
    clear hsp
    rw[HSP.out] at HE HP HX
    generalize hq32:((x.toNat:Int)==32)=b32 at*
    generalize hq35:((x.toNat:Int)==35)=b35 at*
    generalize hq0:((j:Int)==0)=b0 at*
    generalize hqL:((j:Int)==(s.size:Int)-1)=bL at*
    have hE2:∀b,escI (x.toNat:Int) b0 bL false=b↔((b32&&(b0 || bL)) || (b35&&b0))=b:=by intro b;unfold escI;rw[hq32,hq35,Bool.or_false]
    rw[hE2] at HE HP HX
    clear hE2
    have hu:(((x.toNat:Int)<32∨126<(x.toNat:Int))∧((x.toNat:Int)<32∨(¬(x.toNat:Int)<32∧126<(x.toNat:Int))))∨(¬((x.toNat:Int)<32∨126<(x.toNat:Int))∧¬(x.toNat:Int)<32∧¬126<(x.toNat:Int)):=by omega
    cases b32<;>cases b35<;>cases b0<;>cases bL
    all_goals first
     | (have HE':=hid (HE.out rfl)
        clear HE HP HX hu
        go_wp2_with (first
         |(go_at_call 162;(with_reducible refine(za1 x _).mono ?_);rintro e w4 ⟨he4,rfl⟩;rw[HSP.out] at he4;subst he4)
         | (at_builtin;refine zbu rfl _ _ rfl _ _ rfl (HG.out.later (Ext.alloc _ _)) _ 2 2 [92,x] rfl (zkV _ [92,x] 2 rfl (by simp [maxLen])) (by omega) ?_;intro v' w5 hg5;have HG5:=hid hg5;clear hg5))
        exact ⟨⟨j+1,_,by omega,by go_num,by simp;omega,HG5,HE'⟩,by simp [intOf];omega⟩)
     | (rcases hu with ⟨hu,hv⟩ | ⟨hu,hu1,hu2⟩
        ·have HX':=hid (HX.out rfl hu)
         clear HE HP HX hu
         obtain⟨k1,hk1⟩:∃k,k=x.toNat / 16:=⟨_,rfl⟩
         obtain⟨k2,hk2⟩:∃k,k=x.toNat % 16:=⟨_,rfl⟩
         have hl1:k1<16:=by omega
         have hl2:k2<16:=by omega
         have g1:=zaV (zjd hl1) hl1
         have g2:=zaV (zjd hl2) hl2
         have hsh:(x.toNat:Int) / 16=(k1:Int):=by omega
         have hand:=zpJ x
         rw[←hk1,←hk2] at HX'
         rw[←hk2] at hand
         have hk1':(k1:Int)<16:=by omega
         have hk2':(k2:Int)<16:=by omega
         generalize zbp k1=d1 at*
         generalize zbp k2=d2 at*
         clear hk1 hk2
         rcases hv with hv|⟨hv,hv2⟩
         all_goals
          go_wp2_with (first
           | (go_at_call 162;(with_reducible refine (za1 x _).mono ?_);rintro e w4 ⟨he4,rfl⟩;rw [HSP.out] at he4;subst he4))
          refine zap w.heap.size (.read 0 (.read 1 (.read 2 (.read 3 (.read 4 (.read 5 (.read 6 (.main 7 (.main 8 (.read 9 .done)))))))))) (by kernel_rfl) (by kernel_rfl) ?_
          intro wD hxD
          have XB:Hid (Below w.heap.size wD wD):=Below.refl _ _
          have HGD:=hid (HG.out.later hxD)
          repeat' ((first
           |refine zaF rfl rfl ?_
           |refine zaw rfl rfl ?_
           |refine walksB_skip rfl rfl ?_
           |refine walksB_unwanted rfl rfl ?_
           |(refine zaC (v:=?_) rfl rfl (fun w' hE=>?_) ?_;rotate_left 1;(· ((try(have hEx:=Below.trans (Hid.out XB) hE));go_simp;(try go_bits);with_reducible rfl)))
           |(refine zam rfl rfl (fun K hK=>?_);(first|(refine zsg _ _ rfl d1 d2 rfl rfl ?_;intro A8 w8 hx8 hs8;have hx8':=Below.mono hx8 (zaz HGD.out.ext);have HGE:=hid (HGD.out.later hx8);have HS8:=hid hs8;clear hx8 hs8;replace XB:=hid (Below.trans (Hid.out XB) (hx8')))|(refine zdl _ _ rfl _ acc rfl HGE.out _ 3 3 [92,d1,d2] rfl HS8.out (by omega) ?_;intro v' w9 hg9 hb9;have HG9:=hid hg9;clear hg9;replace XB:=hid (Below.trans (Hid.out XB) (hb9))));refine hK _ _ (by first|assumption|exact Below.refl _ _|exact Below.mono (Ext.alloc _ _) (Hid.out HSW)|exact Below.setCell (p:=⟨_,_,_⟩) (Below.refl _ _) (Nat.le_refl _) _) ?_;clear hK K)
           |refine zaL ?_ ?_
           | (refine zam rfl rfl (fun K hK=>?_);go_wp2_with (fail);refine hK _ _ (by first | assumption | exact Below.refl _ _ | exact Below.mono (Ext.alloc _ _) (Hid.out HSW) | exact Below.setCell (p:=⟨_,_,_⟩) (Below.refl _ _) (Nat.le_refl _) _) ?_;clear hK K));try simp only [Act.put,Act.eval,evs])
          refine zaG ?_
          go_wp2
          exact⟨⟨j+1,acc++[92,d1,d2],by omega,by go_num,by simp;omega,HG9,HX'⟩,by simp[intOf];omega⟩
        ·have HP':=hid (HP.out rfl hu)
         clear HE HP HX hu
         go_wp2_with (first
          |(go_at_call 162;(with_reducible refine(za1 x _).mono ?_);rintro e w4 ⟨he4,rfl⟩;rw[HSP.out] at he4;subst he4)
          | (at_builtin;refine zbu rfl _ _ rfl _ _ rfl (HG.out.later (Ext.alloc _ _)) _ 1 1 [x] rfl (zdF _ x) (by omega) ?_;intro v' w5 hg5;have HG5:=hid hg5;clear hg5))
         exact ⟨⟨j+1,_,by omega,by go_num,by simp;omega,HG5,HP'⟩,by simp [intOf];omega⟩)
  ·obtain rfl:j=s.size:=by omega
   have HF:Hid (zaA true (bys s)=acc):=by show _=_;rw[←HR.out,zbP (Nat.le_refl _)];simp[zaA]
   obtain⟨A1,c1,rfl,hs1⟩:=HG.out.sl
   have hC:=hs1.conv wr (Ext.refl wr)
   clear hs1
   go_wp2
   go_ret
   exact⟨by rw[HF.out];rfl,HG.out.ext⟩
end Go.Proofs.YtkjbokhnpphimaaGreatDoor
