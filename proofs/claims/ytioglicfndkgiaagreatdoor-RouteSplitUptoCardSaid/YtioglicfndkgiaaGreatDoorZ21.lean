/- Lemmas of the walk. -/
import Derived.Test.YtioglicfndkgiaaGreatDoorZ20
set_option maxHeartbeats 40000000
set_option linter.unusedVariables false
set_option linter.unusedSimpArgs false
namespace Go.Proofs.YtioglicfndkgiaaGreatDoor
open Go.RowKit
set_option maxRecDepth 100000
theorem zi6 (s:ByteArray) (w:World) (hG:Gl w) (hs:s.size≤1000000) :
 Calls Tryz.prog 115 #[.string s] w (zeS w (bys s)):=by
 have HG:=hid hG
 have Hs:=hid hs
 have HSP:∀ w,Calls Tryz.prog 114 #[.string s,.int .u8 43] w fun e w'=>∃ v,e=.returned v∧GrowS w w' v (strs (splitF 43 [] (bys s))):=fun w=>ziJ s 43 (by decide) w (by omega)
 have HPL:Hid (∀ p∈splitF 43 [] (bys s),p.length≤1000000):=fun p hp=>by have:=zg3 hp;rw [zaf] at this;omega
 have HPF:Hid (3<(splitF 43 [] (bys s)).length→zbk (bys s)=none):=zqS _
 have HPB:Hid ((splitF 43 [] (bys s)).mapM avaB=none→zbk (bys s)=none):=by intro h;unfold zbk;rw [h]
 have HPY:Hid (∀ l,(splitF 43 [] (bys s)).mapM avaB=some l→zbk (bys s)=if zan (zcC l) then some (zcC l) else none):=by intro l h;unfold zbk;rw [h]
 clear hG hs
 generalize splitF 43 [] (bys s)=P at *
 by_cases h3:3<P.length
 ·have HF:=hid (HPF.out h3)
  have h3':3<(P.length:Int):=by omega
  clear h3
  go_enter Tryz.func115,Tryz.ntmps115
  go_wp2_with (go_at_call 114;(with_reducible refine (HSP _).mono ?_);rintro e w1 ⟨v1,rfl,hg1⟩;obtain ⟨A1,c1,rfl,hr1⟩:=hg1.row;have HX1:=hid hg1.ext;clear hg1 hr1)
  go_ret2
  exact ⟨none,0,0,by rw [HF.out];rfl,by rw [HF.out];exact Row.nil _ _ _,HX1.out⟩
 ·have h3':¬ 3<(P.length:Int):=by omega
  go_enter Tryz.func115,Tryz.ntmps115
  go_wp2_with (go_at_call 114;(with_reducible refine (HSP _).mono ?_);rintro e w1 ⟨v1,rfl,hg1⟩;obtain ⟨A1,c1,rfl,hr1⟩:=hg1.row;have HR1:=hid hr1;have HX1:=hid hg1.ext;clear hg1 hr1)
  rw [List.length_map] at HR1
  have hn1:P.length≤3:=by omega
  clear h3 h3'
  go_loopw [4,18] (fun v i wr=>∃ (j:Nat) (l0:List Ava),j≤P.length∧i=.int .i64 j∧Hid (GrowA 175 w1 wr v (zcC l0))∧Hid ((P.take j).mapM avaB=some l0)∧Hid (l0.length=j)) (fun _ i _=>P.length-(intOf i).toNat)
  case atStart=>exact ⟨0,[],by omega,rfl,GrowA.nil (Ext.refl _),by simp [Hid],rfl⟩
  case round=>
   obtain ⟨j,l0,hj,rfl,HGR,HM,HLN⟩:=hrel
   by_cases hlt:j<P.length
   ·have hlt':(j:Int)<(P.length:Int):=by omega
    obtain ⟨b,o,p,rfl,hp,e1⟩:=zfX (HR1.out.ext HGR.out.ext) hlt
    have hpl:=HPL.out p (List.mem_of_getElem? hp)
    have HPA:∀ w,Calls Tryz.prog 146 #[.string (str p)] w (zjp w p):=fun w=>by
     have:=zqV (str p) w (by rw [zaL];omega)
     rwa [zao] at this
    unfold zjp at HPA
    have HNO:Hid (avaB p=none→zbk (bys s)=none):=fun h=>HPB.out (zer (List.mem_of_getElem? hp) h)
    have HYES:Hid (∀ y,avaB p=some y→(P.take (j+1)).mapM avaB=some (l0++[y])):=fun y h=>zfQ HM.out hp h
    clear hp
    cases hav:avaB p with
    | none=>
     rw [hav] at HPA
     have HF:=hid (HNO.out hav)
     clear HNO HYES hav
     go_wp2_with (go_at_call 146;(with_reducible refine (HPA _).mono ?_);rintro e w2 ⟨x,rfl,-,hx2⟩;have HX2:=hid hx2;clear hx2)
     go_ret2
     exact ⟨none,0,0,by rw [HF.out];rfl,by rw [HF.out];exact Row.nil _ _ _,HX1.out.trans (HGR.out.ext.trans (HX2.out.trans (Ext.alloc _ _)))⟩
    | some y=>
     have HY:=hid (HYES.out y hav)
     rw [hav] at HPA
     clear HNO HYES hav
     have hm3:(zcC l0).length≤3:=by have:=HLN.out;rw [zem];omega
     have HSN:=hid (znj l0 y)
     have HL2:Hid ((l0++[y]).length=j+1):=by show _=_;rw [List.length_append,HLN.out];rfl
     obtain ⟨A4,c4,rfl,hr4⟩:=HGR.out.row
     have HR4:=hid hr4
     have hcap:=hr4.cap
     generalize zcC l0=so at *
     clear hr4
     go_wp2_with (go_at_call 146;(with_reducible refine (HPA _).mono ?_);rintro e w2 ⟨x,rfl,hxy,hx2⟩;obtain rfl:=hxy y rfl;have HX2:=hid hx2;clear hx2 hxy)
     have HB:=hid (Bx.make (Ext.refl w2) #[.string (str x.type),.string (str x.val)] 175)
     go_loopw [9] (fun u wq=>∃ k:Nat,k≤so.length∧u=.int .i64 k∧Hid (∀ (i:Nat) (y:Ava),i<k→so[i]?=some y→ltB y.type x.type=true)∧Hid (Ext (w2.alloc (.cells #[.string (str x.type),.string (str x.val)] 175)) wq)) (fun u _=>so.length-(intOf u).toNat)
     case atStart=>exact ⟨0,by omega,rfl,fun i y hi=>by omega,Ext.refl _⟩
     case round=>
      obtain ⟨k,hk,rfl,HLT,HXQ⟩:=hrel
      have HXW:=hid (HX2.out.trans ((Ext.alloc _ _).trans HXQ.out))
      have a0:=(HB.later HXQ.out).cell (i:=0) rfl
      have a1:=(HB.later HXQ.out).cell (i:=1) rfl
      by_cases hks:k<so.length
      ·have hks':(k:Int)<(so.length:Int):=by omega
       obtain ⟨b5,o5,y,rfl,hy,y0,-⟩:=zgM (HR4.out.ext HXW.out) hks
       cases hlb:ltB y.type x.type with
       | true=>
        have q1:Op.bytesLess y.type x.type=true:=zrA hlb
        have HL5:Hid (∀ (i:Nat) (z:Ava),i<k+1→so[i]?=some z→ltB z.type x.type=true):=by
         intro i z hi hz
         by_cases hik:i=k
         ·subst hik;rw [hy] at hz;injection hz with hz;rw [← hz];exact hlb
         ·exact HLT.out i z (by omega) hz
        clear hy hlb
        go_wp2
        refine zad (.read 0 (.read 1 (.read 2 (.read 3 (.read 4 (.read 5 (.read 6 (.read 7 (.read 8 (.read 9 (.read 10 (.read 11 (.read 12 (.read 13 .done)))))))))))))) (by kernel_rfl) (by kernel_rfl) ?_
        intro wD hxD
        have XE:Hid (Ext wD wD):=Ext.refl _
        have p0:=zaa (zaa y0 _ hxD)
        have pa:=zaa (zaa a0 _ hxD)
        repeat' (first
         | ((first | refine zah rfl rfl ?_ | refine zae rfl rfl ?_ | refine zak rfl rfl ?_);simp only [Act.put,Act.eval,evs])
         | (refine zab rfl rfl ?_;simp only [Act.put,evp])
         | (refine zag (v:=?_) rfl rfl (fun w' hE=>?_) ?_;rotate_left 1;(· ((try (have hEx:=Ext.trans (Hid.out XE) hE));go_simp;(try go_bits);with_reducible rfl));simp only [Act.put,evp])
         | (refine walks_alt ?_ ?_)
         | (refine zai rfl rfl (fun K hK=>?_);go_wp2_with (fail);refine hK _ _ (by first | assumption | exact Ext.alloc _ _ | exact Ext.refl _) ?_;clear hK K;try simp only [Act.put,evp]))
        refine zaj ?_
        go_wp2
        exact ⟨⟨k+1,by omega,by go_num,HL5,HXQ.out.trans (hxD.trans XE.out)⟩,by simp [intOf];omega⟩
       | false=>
        have q1:Op.bytesLess y.type x.type=false:=zp4 hlb
        have HIN:Hid (insA x so=so.take k++x::so.drop k):=zlL hk HLT.out (fun z hz=>by rw [hy] at hz;injection hz with hz;rw [← hz];exact hlb)
        clear hy hlb
        go_wp2
        refine zad (.read 0 (.read 1 (.read 2 (.read 3 (.read 4 (.read 5 (.read 6 (.read 7 (.read 8 (.read 9 (.read 10 (.read 11 (.read 12 (.read 13 .done)))))))))))))) (by kernel_rfl) (by kernel_rfl) ?_
        intro wD hxD
        have XE:Hid (Ext wD wD):=Ext.refl _
        have p0:=zaa (zaa y0 _ hxD)
        have pa:=zaa (zaa a0 _ hxD)
        repeat' (first
         | ((first | refine zah rfl rfl ?_ | refine zae rfl rfl ?_ | refine zak rfl rfl ?_);simp only [Act.put,Act.eval,evs])
         | (refine zab rfl rfl ?_;simp only [Act.put,evp])
         | (refine zag (v:=?_) rfl rfl (fun w' hE=>?_) ?_;rotate_left 1;(· ((try (have hEx:=Ext.trans (Hid.out XE) hE));go_simp;(try go_bits);with_reducible rfl));simp only [Act.put,evp])
         | (refine walks_alt ?_ ?_)
         | (refine zai rfl rfl (fun K hK=>?_);go_wp2_with (fail);refine hK _ _ (by first | assumption | exact Ext.alloc _ _ | exact Ext.refl _) ?_;clear hK K;try simp only [Act.put,evp]))
        refine zaj ?_
        have HXQ2:=hid (HXQ.out.trans (hxD.trans XE.out))
        have HXW2:=hid (HXW.out.trans (hxD.trans XE.out))
        have a0':=pa _ XE.out
        have a1':=zaa a1 _ (hxD.trans XE.out)
        clear a0 a1 p0 pa y0
        have hsh:=zmF (some ⟨b5,o5,none⟩) so.length c4 k (by omega)
        have hsl:=zms (some ⟨b5,o5,none⟩) so.length c4 k (by omega)
        have HRQ:=hid (HR4.out.ext HXW2.out)
        have HCT:=hid (ziu HRQ.out k)
        have HCD:=hid (ziA HRQ.out k)
        go_wp2_with (at_builtin;first
         | (refine zbX rfl _ _ rfl _ _ rfl HG6.out _ _ _ (so.drop k) rfl (by (try simp only [List.length_drop]);(try omega)) (HCD.out.below HG6.out.ext) (by simp only [List.nil_append,List.length_append,List.length_take,List.length_cons,List.length_nil];omega) ?_;intro v7 w7 hg7;have HG7:=hid hg7;clear hg7)
         | (refine zbX rfl _ _ rfl _ _ rfl (HG5.out.later (Ext.alloc _ _)) _ 1 1 [x] rfl rfl (zg4 _ x _) (by simp only [List.nil_append,List.length_append,List.length_take,List.length_cons,List.length_nil];omega) ?_;intro v6 w6 hg6;have HG6:=hid hg6;clear hg6)
         | (refine zbX rfl _ _ rfl _ [] rfl (GrowA.nil (Ext.refl _)) _ _ _ (so.take k) rfl (by rw [List.length_take];omega) HCT.out (by rw [List.length_nil];omega) ?_;intro v5 w5 hg5;have HG5:=hid hg5;have a0'':=zaa a0' _ hg5.ext;have a1'':=zaa a1' _ hg5.ext;clear hg5 a0' a1'))
        refine ⟨⟨j+1,_,by omega,by go_num,?_,HY,HL2⟩,by simp [intOf];omega⟩
        rw [HSN.out,HIN.out]
        show GrowA 175 w1 w7 v7 _
        have:=HG7.out.base (HGR.out.ext.trans HXW2.out)
        rwa [List.nil_append,List.append_assoc,List.singleton_append] at this
      ·obtain rfl:k=so.length:=by omega
       have hks':decide ((so.length:Int)<(so.length:Int))=false:=by rw [decide_eq_false_iff_not];omega
       have HIN:Hid (insA x so=so.take so.length++x::so.drop so.length):=zlL hk HLT.out (fun z hz=>by rw [List.getElem?_eq_none (Nat.le_refl _)] at hz;cases hz)
       go_wp2
       refine zad (.read 0 (.read 1 (.read 2 (.read 3 (.read 4 (.read 5 (.read 6 (.read 7 (.read 8 (.read 9 (.read 10 (.read 11 (.read 12 (.read 13 .done)))))))))))))) (by kernel_rfl) (by kernel_rfl) ?_
       intro wD hxD
       have XE:Hid (Ext wD wD):=Ext.refl _
       repeat' (first
        | ((first | refine zah rfl rfl ?_ | refine zae rfl rfl ?_ | refine zak rfl rfl ?_);simp only [Act.put,Act.eval,evs])
        | (refine zab rfl rfl ?_;simp only [Act.put,evp])
        | (refine zag (v:=?_) rfl rfl (fun w' hE=>?_) ?_;rotate_left 1;(· ((try (have hEx:=Ext.trans (Hid.out XE) hE));go_simp;(try go_bits);with_reducible rfl));simp only [Act.put,evp])
        | (refine walks_alt ?_ ?_)
        | (refine zai rfl rfl (fun K hK=>?_);go_wp2_with (fail);refine hK _ _ (by first | assumption | exact Ext.alloc _ _ | exact Ext.refl _) ?_;clear hK K;try simp only [Act.put,evp]))
       refine zaj ?_
       have HXQ2:=hid (HXQ.out.trans (hxD.trans XE.out))
       have HXW2:=hid (HXW.out.trans (hxD.trans XE.out))
       have a0':=zaa a0 _ (hxD.trans XE.out)
       have a1':=zaa a1 _ (hxD.trans XE.out)
       clear a0 a1 hks hks'
       have hsh:=zmF A4 so.length c4 so.length (by omega)
       have hsl:=zms A4 so.length c4 so.length (by omega)
       have HRQ:=hid (HR4.out.ext HXW2.out)
       have HCT:=hid (ziu HRQ.out so.length)
       have HCD:=hid (ziA HRQ.out so.length)
       go_wp2_with (at_builtin;first
        | (refine zbX rfl _ _ rfl _ _ rfl HG6.out _ _ _ (so.drop so.length) rfl (by (try simp only [List.length_drop]);(try omega)) (HCD.out.below HG6.out.ext) (by simp only [List.nil_append,List.length_append,List.length_take,List.length_cons,List.length_nil];omega) ?_;intro v7 w7 hg7;have HG7:=hid hg7;clear hg7)
        | (refine zbX rfl _ _ rfl _ _ rfl (HG5.out.later (Ext.alloc _ _)) _ 1 1 [x] rfl rfl (zg4 _ x _) (by simp only [List.nil_append,List.length_append,List.length_take,List.length_cons,List.length_nil];omega) ?_;intro v6 w6 hg6;have HG6:=hid hg6;clear hg6)
        | (refine zbX rfl _ _ rfl _ [] rfl (GrowA.nil (Ext.refl _)) _ _ _ (so.take so.length) rfl (by rw [List.length_take];omega) HCT.out (by rw [List.length_nil];omega) ?_;intro v5 w5 hg5;have HG5:=hid hg5;have a0'':=zaa a0' _ hg5.ext;have a1'':=zaa a1' _ hg5.ext;clear hg5 a0' a1'))
       refine ⟨⟨j+1,_,by omega,by go_num,?_,HY,HL2⟩,by simp [intOf];omega⟩
       rw [HSN.out,HIN.out]
       show GrowA 175 w1 w7 v7 _
       have:=HG7.out.base (HGR.out.ext.trans HXW2.out)
       rwa [List.nil_append,List.append_assoc,List.singleton_append] at this
   ·obtain rfl:j=P.length:=by omega
    have HMA:Hid (P.mapM avaB=some l0):=by show _=_;rw [← HM.out,List.take_length]
    have HPA:=hid (HPY.out l0 HMA.out)
    have HTY:Hid (∀ a∈zcC l0,a.type.length≤17):=by
     have h1:∀ (l o:List Ava) a,a∈l.foldl (fun o a=>insA a o) o→a∈o∨a∈l:=by
      intro l
      induction l with
      | nil=>intro o a h;exact .inl h
      | cons b t ih=>
       intro o a h
       rcases ih _ _ h with h | h
       ·have h2:∀ (o:List Ava),a∈insA b o→a=b∨a∈o:=by
         intro o
         induction o with
         | nil=>intro h;simpa [insA] using h
         | cons c t ih2=>
          intro h
          unfold insA at h
          split at h
          ·rcases List.mem_cons.1 h with h | h
           ·exact .inr (by simp [h])
           ·rcases ih2 h with h | h
            ·exact .inl h
            ·exact .inr (by simp [h])
          ·simpa using h
        rcases h2 o h with h | h
        ·exact .inr (by simp [h])
        ·exact .inl h
       ·exact .inr (by simp [h])
     intro a ha
     rcases h1 l0 [] a ha with h | h
     ·cases h
     ·obtain ⟨q,_,hq⟩:=zgW HMA.out a h
      exact zjY hq
    obtain ⟨A2,c2,rfl,hr2⟩:=HGR.out.row
    have HR2:=hid hr2
    have HFM:=ze8 (HG.out.ext (HX1.out.trans HGR.out.ext)) HR2.out (fun a ha=>by have:=HTY.out a ha;omega)
    clear hr2 HMA HM
    generalize zcC l0=so at *
    cases hf:zan so with
    | true=>
     rw [hf] at HFM
     have HE:Hid (zbk (bys s)=some so):=by show _=_;rw [HPA.out,hf];rfl
     clear hf
     go_wp2_with (go_at_call 116;(with_reducible refine HFM.mono ?_);rintro e w3 ⟨rfl,hx3⟩;have HX3:=hid hx3;clear hx3)
     go_ret2
     refine ⟨A2,so.length,c2,by rw [HE.out];rfl,?_,HX1.out.trans (HGR.out.ext.trans HX3.out)⟩
     rw [HE.out]
     exact (HR2.out.ext HX3.out).mono fun _ _ h=>Nat.le_trans (zaD HX1.out) h
    | false=>
     rw [hf] at HFM
     have HE:Hid (zbk (bys s)=none):=by show _=_;rw [HPA.out,hf];rfl
     clear hf
     go_wp2_with (go_at_call 116;(with_reducible refine HFM.mono ?_);rintro e w3 ⟨rfl,hx3⟩;have HX3:=hid hx3;clear hx3)
     go_ret2
     exact ⟨none,0,0,by rw [HE.out];rfl,by rw [HE.out];exact Row.nil _ _ _,HX1.out.trans (HGR.out.ext.trans HX3.out)⟩
end Go.Proofs.YtioglicfndkgiaaGreatDoor
