/- Lemmas of the walk that the last text of this claim joins. -/
import Derived.Test.YtahahafhendgoaaGreatDoorZ26
import Derived.Test.YtahahafhendgoaaGreatDoorZ20
set_option maxHeartbeats 40000000
set_option linter.unusedVariables false
set_option linter.unusedSimpArgs false
namespace Go.Proofs.YtahahafhendgoaaGreatDoor
open Go.RowKit
set_option maxRecDepth 100000
theorem parsepart_any (s : ByteArray) (w : World) (hG : Gl w) (hs : s.size ≤ 1000000) :
 Calls Tryz.prog 71 #[.string s] w (PartSays w (bys s)):=by
 have HG:=hid hG
 have Hs:=hid hs
 have HSP : ∀ w,Calls Tryz.prog 70 #[.string s,.int .u8 43] w fun e w'=>∃ v,e = .returned v ∧ GrowS w w' v (strs (splitF 43 [] (bys s))):=fun w=>rsplit_any s 43 (by decide) w (by omega)
 have HPL : Hid (∀ p ∈ splitF 43 [] (bys s),p.length ≤ 1000000):=fun p hp=>by have:=piece_le hp;rw [bys_len] at this;omega
 have HPF : Hid (3 < (splitF 43 [] (bys s)).length → partB (bys s) = none):=part_few _
 have HPB : Hid ((splitF 43 [] (bys s)).mapM avaB = none → partB (bys s) = none):=by intro h;unfold partB;rw [h]
 have HPY : Hid (∀ l,(splitF 43 [] (bys s)).mapM avaB = some l → partB (bys s) = if formedA (sortA l) then some (sortA l) else none):=by intro l h;unfold partB;rw [h]
 clear hG hs
 generalize splitF 43 [] (bys s) = P at *
 by_cases h3 : 3 < P.length
 ·have HF:=hid (HPF.out h3)
  have h3' : 3 < (P.length : Int):=by omega
  clear h3
  go_enter Tryz.func71,Tryz.ntmps71
  go_wp2_with (go_at_call 70;(with_reducible refine (HSP _).mono ?_);rintro e w1 ⟨v1,rfl,hg1⟩;obtain ⟨A1,c1,rfl,hr1⟩:=hg1.row;have HX1:=hid hg1.ext;clear hg1 hr1)
  go_ret2
  exact ⟨none,0,0,by rw [HF.out];rfl,by rw [HF.out];exact Row.nil _ _ _,HX1.out⟩
 ·have h3' : ¬ 3 < (P.length : Int):=by omega
  go_enter Tryz.func71,Tryz.ntmps71
  go_wp2_with (go_at_call 70;(with_reducible refine (HSP _).mono ?_);rintro e w1 ⟨v1,rfl,hg1⟩;obtain ⟨A1,c1,rfl,hr1⟩:=hg1.row;have HR1:=hid hr1;have HX1:=hid hg1.ext;clear hg1 hr1)
  rw [List.length_map] at HR1
  have hn1 : P.length ≤ 3:=by omega
  clear h3 h3'
  go_loopw [4,18] (fun v i wr=>∃ (j : Nat) (l0 : List Ava),j ≤ P.length ∧ i = .int .i64 j ∧ Hid (GrowA 139 w1 wr v (sortA l0)) ∧ Hid ((P.take j).mapM avaB = some l0) ∧ Hid (l0.length = j)) (fun _ i _=>P.length - (intOf i).toNat)
  case atStart=>exact ⟨0,[],by omega,rfl,GrowA.nil (Ext.refl _),by simp [Hid],rfl⟩
  case round=>
   obtain ⟨j,l0,hj,rfl,HGR,HM,HLN⟩:=hrel
   by_cases hlt : j < P.length
   ·have hlt' : (j : Int) < (P.length : Int):=by omega
    obtain ⟨b,o,p,rfl,hp,e1⟩:=strs_row (HR1.out.ext HGR.out.ext) hlt
    have hpl:=HPL.out p (List.mem_of_getElem? hp)
    have HPA : ∀ w,Calls Tryz.prog 97 #[.string (str p)] w (PairSays w p):=fun w=>by
     have:=pair_any (str p) w (by rw [str_size];omega)
     rwa [bys_str] at this
    unfold PairSays at HPA
    have HNO : Hid (avaB p = none → partB (bys s) = none):=fun h=>HPB.out (mapM_none (List.mem_of_getElem? hp) h)
    have HYES : Hid (∀ y,avaB p = some y → (P.take (j + 1)).mapM avaB = some (l0 ++ [y])):=fun y h=>mapM_take HM.out hp h
    clear hp
    cases hav : avaB p with
    | none=>
     rw [hav] at HPA
     have HF:=hid (HNO.out hav)
     clear HNO HYES hav
     go_wp2_with (go_at_call 97;(with_reducible refine (HPA _).mono ?_);rintro e w2 ⟨x,rfl,-,hx2⟩;have HX2:=hid hx2;clear hx2)
     go_ret2
     exact ⟨none,0,0,by rw [HF.out];rfl,by rw [HF.out];exact Row.nil _ _ _,HX1.out.trans (HGR.out.ext.trans (HX2.out.trans (Ext.alloc _ _)))⟩
    | some y=>
     have HY:=hid (HYES.out y hav)
     rw [hav] at HPA
     clear HNO HYES hav
     have hm3 : (sortA l0).length ≤ 3:=by have:=HLN.out;rw [sortA_length];omega
     have HSN:=hid (sortA_snoc l0 y)
     have HL2 : Hid ((l0 ++ [y]).length = j + 1):=by show _ = _;rw [List.length_append,HLN.out];rfl
     obtain ⟨A4,c4,rfl,hr4⟩:=HGR.out.row
     have HR4:=hid hr4
     have hcap:=hr4.cap
     generalize sortA l0 = so at *
     clear hr4
     go_wp2_with (go_at_call 97;(with_reducible refine (HPA _).mono ?_);rintro e w2 ⟨x,rfl,hxy,hx2⟩;obtain rfl:=hxy y rfl;have HX2:=hid hx2;clear hx2 hxy)
     have HB:=hid (Bx.make (Ext.refl w2) #[.string (str x.type),.string (str x.val)] 139)
     go_loopw [9] (fun u wq=>∃ k : Nat,k ≤ so.length ∧ u = .int .i64 k ∧ Hid (∀ (i : Nat) (y : Ava),i < k → so[i]? = some y → ltB y.type x.type = true) ∧ Hid (Ext (w2.alloc (.cells #[.string (str x.type),.string (str x.val)] 139)) wq)) (fun u _=>so.length - (intOf u).toNat)
     case atStart=>exact ⟨0,by omega,rfl,fun i y hi=>by omega,Ext.refl _⟩
     case round=>
      obtain ⟨k,hk,rfl,HLT,HXQ⟩:=hrel
      have HXW:=hid (HX2.out.trans ((Ext.alloc _ _).trans HXQ.out))
      have a0:=(HB.later HXQ.out).cell (i:=0) rfl
      have a1:=(HB.later HXQ.out).cell (i:=1) rfl
      by_cases hks : k < so.length
      ·have hks' : (k : Int) < (so.length : Int):=by omega
       obtain ⟨b5,o5,y,rfl,hy,y0,-⟩:=ava_at (HR4.out.ext HXW.out) hks
       cases hlb : ltB y.type x.type with
       | true=>
        have q1 : Op.bytesLess y.type x.type = true:=geq_no hlb
        have HL5 : Hid (∀ (i : Nat) (z : Ava),i < k + 1 → so[i]? = some z → ltB z.type x.type = true):=by
         intro i z hi hz
         by_cases hik : i = k
         ·subst hik;rw [hy] at hz;injection hz with hz;rw [← hz];exact hlb
         ·exact HLT.out i z (by omega) hz
        clear hy hlb
        go_wp2
        refine wp_region_plan (.read 0 (.read 1 (.read 2 (.read 3 (.read 4 (.read 5 (.read 6 (.read 7 (.read 8 (.read 9 (.read 10 (.read 11 (.read 12 (.read 13 .done)))))))))))))) (by kernel_rfl) (by kernel_rfl) ?_
        intro wD hxD
        have XE : Hid (Ext wD wD):=Ext.refl _
        have p0:=cell_later (cell_later y0 _ hxD)
        have pa:=cell_later (cell_later a0 _ hxD)
        repeat' (first
         | ((first | refine walks_move rfl rfl ?_ | refine walks_assign rfl rfl ?_ | refine walks_skip rfl rfl ?_);simp only [Act.put,Act.eval,evs])
         | (refine walks_unwanted rfl rfl ?_;simp only [Act.put,evp])
         | (refine walks_read (v:=?_) rfl rfl (fun w' hE=>?_) ?_;rotate_left 1;(· ((try (have hEx:=Ext.trans (Hid.out XE) hE));go_simp;(try go_bits);with_reducible rfl));simp only [Act.put,evp])
         | (refine walks_alt ?_ ?_)
         | (refine walks_main rfl rfl (fun K hK=>?_);go_wp2_with (fail);refine hK _ _ (by first | assumption | exact Ext.alloc _ _ | exact Ext.refl _) ?_;clear hK K;try simp only [Act.put,evp]))
        refine walks_done ?_
        go_wp2
        exact ⟨⟨k + 1,by omega,by go_num,HL5,HXQ.out.trans (hxD.trans XE.out)⟩,by simp [intOf];omega⟩
       | false=>
        have q1 : Op.bytesLess y.type x.type = false:=geq_yes hlb
        have HIN : Hid (insA x so = so.take k ++ x :: so.drop k):=insA_at hk HLT.out (fun z hz=>by rw [hy] at hz;injection hz with hz;rw [← hz];exact hlb)
        clear hy hlb
        go_wp2
        refine wp_region_plan (.read 0 (.read 1 (.read 2 (.read 3 (.read 4 (.read 5 (.read 6 (.read 7 (.read 8 (.read 9 (.read 10 (.read 11 (.read 12 (.read 13 .done)))))))))))))) (by kernel_rfl) (by kernel_rfl) ?_
        intro wD hxD
        have XE : Hid (Ext wD wD):=Ext.refl _
        have p0:=cell_later (cell_later y0 _ hxD)
        have pa:=cell_later (cell_later a0 _ hxD)
        repeat' (first
         | ((first | refine walks_move rfl rfl ?_ | refine walks_assign rfl rfl ?_ | refine walks_skip rfl rfl ?_);simp only [Act.put,Act.eval,evs])
         | (refine walks_unwanted rfl rfl ?_;simp only [Act.put,evp])
         | (refine walks_read (v:=?_) rfl rfl (fun w' hE=>?_) ?_;rotate_left 1;(· ((try (have hEx:=Ext.trans (Hid.out XE) hE));go_simp;(try go_bits);with_reducible rfl));simp only [Act.put,evp])
         | (refine walks_alt ?_ ?_)
         | (refine walks_main rfl rfl (fun K hK=>?_);go_wp2_with (fail);refine hK _ _ (by first | assumption | exact Ext.alloc _ _ | exact Ext.refl _) ?_;clear hK K;try simp only [Act.put,evp]))
        refine walks_done ?_
        have HXQ2:=hid (HXQ.out.trans (hxD.trans XE.out))
        have HXW2:=hid (HXW.out.trans (hxD.trans XE.out))
        have a0':=pa _ XE.out
        have a1':=cell_later a1 _ (hxD.trans XE.out)
        clear a0 a1 p0 pa y0
        have hsh:=rslice_h (some ⟨b5,o5,none⟩) so.length c4 k (by omega)
        have hsl:=rslice_l (some ⟨b5,o5,none⟩) so.length c4 k (by omega)
        have HRQ:=hid (HR4.out.ext HXW2.out)
        have HCT:=hid (cells_take HRQ.out k)
        have HCD:=hid (cells_drop HRQ.out k)
        go_wp2_with (at_builtin;first
         | (refine rappend_avas rfl _ _ rfl _ _ rfl HG6.out _ _ _ (so.drop k) rfl (by (try simp only [List.length_drop]);(try omega)) (HCD.out.below HG6.out.ext) (by simp only [List.nil_append,List.length_append,List.length_take,List.length_cons,List.length_nil];omega) ?_;intro v7 w7 hg7;have HG7:=hid hg7;clear hg7)
         | (refine rappend_avas rfl _ _ rfl _ _ rfl (HG5.out.later (Ext.alloc _ _)) _ 1 1 [x] rfl rfl (lit_ava1 _ x _) (by simp only [List.nil_append,List.length_append,List.length_take,List.length_cons,List.length_nil];omega) ?_;intro v6 w6 hg6;have HG6:=hid hg6;clear hg6)
         | (refine rappend_avas rfl _ _ rfl _ [] rfl (GrowA.nil (Ext.refl _)) _ _ _ (so.take k) rfl (by rw [List.length_take];omega) HCT.out (by rw [List.length_nil];omega) ?_;intro v5 w5 hg5;have HG5:=hid hg5;have a0'':=cell_later a0' _ hg5.ext;have a1'':=cell_later a1' _ hg5.ext;clear hg5 a0' a1'))
        refine ⟨⟨j + 1,_,by omega,by go_num,?_,HY,HL2⟩,by simp [intOf];omega⟩
        rw [HSN.out,HIN.out]
        show GrowA 139 w1 w7 v7 _
        have:=HG7.out.base (HGR.out.ext.trans HXW2.out)
        rwa [List.nil_append,List.append_assoc,List.singleton_append] at this
      ·obtain rfl : k = so.length:=by omega
       have hks' : decide ((so.length : Int) < (so.length : Int)) = false:=by rw [decide_eq_false_iff_not];omega
       have HIN : Hid (insA x so = so.take so.length ++ x :: so.drop so.length):=insA_at hk HLT.out (fun z hz=>by rw [List.getElem?_eq_none (Nat.le_refl _)] at hz;cases hz)
       go_wp2
       refine wp_region_plan (.read 0 (.read 1 (.read 2 (.read 3 (.read 4 (.read 5 (.read 6 (.read 7 (.read 8 (.read 9 (.read 10 (.read 11 (.read 12 (.read 13 .done)))))))))))))) (by kernel_rfl) (by kernel_rfl) ?_
       intro wD hxD
       have XE : Hid (Ext wD wD):=Ext.refl _
       repeat' (first
        | ((first | refine walks_move rfl rfl ?_ | refine walks_assign rfl rfl ?_ | refine walks_skip rfl rfl ?_);simp only [Act.put,Act.eval,evs])
        | (refine walks_unwanted rfl rfl ?_;simp only [Act.put,evp])
        | (refine walks_read (v:=?_) rfl rfl (fun w' hE=>?_) ?_;rotate_left 1;(· ((try (have hEx:=Ext.trans (Hid.out XE) hE));go_simp;(try go_bits);with_reducible rfl));simp only [Act.put,evp])
        | (refine walks_alt ?_ ?_)
        | (refine walks_main rfl rfl (fun K hK=>?_);go_wp2_with (fail);refine hK _ _ (by first | assumption | exact Ext.alloc _ _ | exact Ext.refl _) ?_;clear hK K;try simp only [Act.put,evp]))
       refine walks_done ?_
       have HXQ2:=hid (HXQ.out.trans (hxD.trans XE.out))
       have HXW2:=hid (HXW.out.trans (hxD.trans XE.out))
       have a0':=cell_later a0 _ (hxD.trans XE.out)
       have a1':=cell_later a1 _ (hxD.trans XE.out)
       clear a0 a1 hks hks'
       have hsh:=rslice_h A4 so.length c4 so.length (by omega)
       have hsl:=rslice_l A4 so.length c4 so.length (by omega)
       have HRQ:=hid (HR4.out.ext HXW2.out)
       have HCT:=hid (cells_take HRQ.out so.length)
       have HCD:=hid (cells_drop HRQ.out so.length)
       go_wp2_with (at_builtin;first
        | (refine rappend_avas rfl _ _ rfl _ _ rfl HG6.out _ _ _ (so.drop so.length) rfl (by (try simp only [List.length_drop]);(try omega)) (HCD.out.below HG6.out.ext) (by simp only [List.nil_append,List.length_append,List.length_take,List.length_cons,List.length_nil];omega) ?_;intro v7 w7 hg7;have HG7:=hid hg7;clear hg7)
        | (refine rappend_avas rfl _ _ rfl _ _ rfl (HG5.out.later (Ext.alloc _ _)) _ 1 1 [x] rfl rfl (lit_ava1 _ x _) (by simp only [List.nil_append,List.length_append,List.length_take,List.length_cons,List.length_nil];omega) ?_;intro v6 w6 hg6;have HG6:=hid hg6;clear hg6)
        | (refine rappend_avas rfl _ _ rfl _ [] rfl (GrowA.nil (Ext.refl _)) _ _ _ (so.take so.length) rfl (by rw [List.length_take];omega) HCT.out (by rw [List.length_nil];omega) ?_;intro v5 w5 hg5;have HG5:=hid hg5;have a0'':=cell_later a0' _ hg5.ext;have a1'':=cell_later a1' _ hg5.ext;clear hg5 a0' a1'))
       refine ⟨⟨j + 1,_,by omega,by go_num,?_,HY,HL2⟩,by simp [intOf];omega⟩
       rw [HSN.out,HIN.out]
       show GrowA 139 w1 w7 v7 _
       have:=HG7.out.base (HGR.out.ext.trans HXW2.out)
       rwa [List.nil_append,List.append_assoc,List.singleton_append] at this
   ·obtain rfl : j = P.length:=by omega
    have HMA : Hid (P.mapM avaB = some l0):=by show _ = _;rw [← HM.out,List.take_length]
    have HPA:=hid (HPY.out l0 HMA.out)
    have HTY : Hid (∀ a ∈ sortA l0,a.type.length ≤ 17):=by
     have h1 : ∀ (l o : List Ava) a,a ∈ l.foldl (fun o a=>insA a o) o → a ∈ o ∨ a ∈ l:=by
      intro l
      induction l with
      | nil=>intro o a h;exact .inl h
      | cons b t ih=>
       intro o a h
       rcases ih _ _ h with h | h
       ·have h2 : ∀ (o : List Ava),a ∈ insA b o → a = b ∨ a ∈ o:=by
         intro o
         induction o with
         | nil=>intro h;simpa [insA] using h
         | cons c t ih2=>
          intro h
          unfold insA at h
          split at h
          ·rcases List.mem_cons.1 h with h | h
           ·exact .inr (by simp [h])
           ·rcases ih2 h with h | h
            ·exact .inl h
            ·exact .inr (by simp [h])
          ·simpa using h
        rcases h2 o h with h | h
        ·exact .inr (by simp [h])
        ·exact .inl h
       ·exact .inr (by simp [h])
     intro a ha
     rcases h1 l0 [] a ha with h | h
     ·cases h
     ·obtain ⟨q,_,hq⟩:=mapM_mem HMA.out a h
      exact avaB_type hq
    obtain ⟨A2,c2,rfl,hr2⟩:=HGR.out.row
    have HR2:=hid hr2
    have HFM:=rformed_any (HG.out.ext (HX1.out.trans HGR.out.ext)) HR2.out (fun a ha=>by have:=HTY.out a ha;omega)
    clear hr2 HMA HM
    generalize sortA l0 = so at *
    cases hf : formedA so with
    | true=>
     rw [hf] at HFM
     have HE : Hid (partB (bys s) = some so):=by show _ = _;rw [HPA.out,hf];rfl
     clear hf
     go_wp2_with (go_at_call 72;(with_reducible refine HFM.mono ?_);rintro e w3 ⟨rfl,hx3⟩;have HX3:=hid hx3;clear hx3)
     go_ret2
     refine ⟨A2,so.length,c2,by rw [HE.out];rfl,?_,HX1.out.trans (HGR.out.ext.trans HX3.out)⟩
     rw [HE.out]
     exact (HR2.out.ext HX3.out).mono fun _ _ h=>Nat.le_trans (ext_sz HX1.out) h
    | false=>
     rw [hf] at HFM
     have HE : Hid (partB (bys s) = none):=by show _ = _;rw [HPA.out,hf];rfl
     clear hf
     go_wp2_with (go_at_call 72;(with_reducible refine HFM.mono ?_);rintro e w3 ⟨rfl,hx3⟩;have HX3:=hid hx3;clear hx3)
     go_ret2
     exact ⟨none,0,0,by rw [HE.out];rfl,by rw [HE.out];exact Row.nil _ _ _,HX1.out.trans (HGR.out.ext.trans HX3.out)⟩
theorem Bx.setS {w wr : World} {g : Nat} {T : TypeId} {x : Value} (h : Bx w wr g T #[x]) (v : Value) : Bx w (wr.setCell ⟨g,0,none⟩ v) g T #[v]:=h.set 0 v
def parseS (s : List UInt8) : Except NameErr (List (List Ava)):=
 if 1000 < s.length then .error .long
 else if s = [] then .ok []
 else if 12 < (splitF 44 [] s).length then .error .long
 else match (splitF 44 [] s).mapM partB with
  | none=>.error .form
  | some l=>.ok l
def okL {α : Type} (r : Except NameErr (List α)) : List α:=match r with | .ok l=>l | .error _=>[]
def codeR {α : Type} (r : Except NameErr α) : Int:=match r with | .ok _=>0 | .error .long=>4 | .error .form=>2
def DnSays (w : World) (s : List UInt8) (e : Ending) (w' : World) : Prop:=
 ∃ A n c,e = .returned (.tuple #[.agg #[.slice A n c],.int .i64 (codeR (parseS s))]) ∧ Row Elem.part (fun b=>w.heap.size ≤ b) w' A n c (okL (parseS s)) ∧ Ext w w'
def RDnSays (w : World) (s : List UInt8) (e : Ending) (w' : World) : Prop:=
 ∃ A n c,e = .returned (.tuple #[.slice A n c,.int .i64 (codeR (parseS s))]) ∧ Row Elem.part (fun b=>w.heap.size ≤ b) w' A n c (okL (parseS s)) ∧ Ext w w'
theorem dnparse_any (s : ByteArray) (w : World) (hG : Gl w) : Calls Tryz.prog 63 #[.string s] w (DnSays w (bys s)):=by
 have HG:=hid hG
 have HPD : Hid (parseS (bys s) = if 1000 < (bys s).length then .error .long else if bys s = [] then .ok [] else if 12 < (splitF 44 [] (bys s)).length then .error .long
  else match (splitF 44 [] (bys s)).mapM partB with | none=>.error .form | some l=>.ok l):=rfl
 clear hG
 by_cases hl : 1000 < s.size
 ·have hl' : 1000 < (s.size : Int):=by omega
  have HF : Hid (parseS (bys s) = .error .long):=by show _ = _;rw [HPD.out,if_pos (by rw [bys_len];exact hl)]
  have HBX:=hid (Bx.make (Ext.refl w) #[.slice none 0 0] 117)
  clear hl HPD
  go_enter Tryz.func63,Tryz.ntmps63
  go_wp2
  (try simp only [Exit.inBlock,Exit.then])
  refine ret_cell_tmp _ rfl rfl HBX.out Tryz.underlying117 rfl (by kernel_rfl) rfl ?_
  exact ⟨none,0,0,by rw [HF.out];rfl,by rw [HF.out];exact Row.nil _ _ _,HBX.out.ext⟩
 ·have hl' : ¬ 1000 < (s.size : Int):=by omega
  have Hs : Hid (s.size ≤ 1000):=by show _ ≤ _;omega
  rw [if_neg (by rw [bys_len];exact hl)] at HPD
  by_cases h0 : s.size = 0
  ·have e1:=emp_yes h0
   have HF : Hid (parseS (bys s) = .ok []):=by show _ = _;rw [HPD.out,if_pos (by rw [str_emp h0];rfl)]
   have HBX:=hid (Bx.make (Ext.refl w) #[.slice none 0 0] 117)
   clear hl h0 HPD
   go_enter Tryz.func63,Tryz.ntmps63
   go_wp2
   (try simp only [Exit.inBlock,Exit.then])
   refine ret_cell_tmp _ rfl rfl HBX.out Tryz.underlying117 rfl (by kernel_rfl) rfl ?_
   exact ⟨none,0,0,by rw [HF.out];rfl,by rw [HF.out];exact Row.nil _ _ _,HBX.out.ext⟩
  ·have e1:=emp_nb h0
   rw [if_neg (fun h=>h0 (by rw [← bys_len,h];rfl))] at HPD
   have HSP : ∀ w,Calls Tryz.prog 89 #[.string s,.int .u8 44] w fun e w'=>∃ v,e = .returned v ∧ GrowS w w' v (strs (splitF 44 [] (bys s))):=fun w=>split_any s 44 (by decide) w (by omega)
   have HPL : Hid (∀ p ∈ splitF 44 [] (bys s),p.length ≤ 1000):=fun p hp=>by have:=piece_le hp;rw [bys_len] at this;omega
   clear hl h0
   generalize splitF 44 [] (bys s) = P at *
   by_cases h12 : 12 < P.length
   ·have h12' : 12 < (P.length : Int):=by omega
    have HF : Hid (parseS (bys s) = .error .long):=by show _ = _;rw [HPD.out,if_pos h12]
    clear h12 HPD
    go_enter Tryz.func63,Tryz.ntmps63
    go_wp2_with (go_at_call 89;(with_reducible refine (HSP _).mono ?_);rintro e w1 ⟨v1,rfl,hg1⟩;have HB:=(Bx.make (Ext.refl w) #[.slice none 0 0] 117).later hg1.ext;have r0:=HB.cell (i:=0) rfl;have f0:=HB.frozen 0;have HBX:=hid HB;obtain ⟨A1,c1,rfl,hr1⟩:=hg1.row;clear hg1 hr1 HB)
    (try simp only [Exit.inBlock,Exit.then])
    refine ret_cell_tmp _ rfl rfl (HBX.out.setS (.slice none 0 0)) Tryz.underlying117 rfl (by kernel_rfl) rfl ?_
    exact ⟨none,0,0,by rw [HF.out];rfl,by rw [HF.out];exact Row.nil _ _ _,(HBX.out.setS (.slice none 0 0)).ext⟩
   ·have h12' : ¬ 12 < (P.length : Int):=by omega
    have hn12 : P.length ≤ 12:=by omega
    rw [if_neg h12] at HPD
    have HNO : Hid (P.mapM partB = none → parseS (bys s) = .error .form):=by intro h;rw [HPD.out,h]
    have HYS : Hid (∀ l,P.mapM partB = some l → parseS (bys s) = .ok l):=by intro l h;rw [HPD.out,h]
    clear h12 HPD
    go_enter Tryz.func63,Tryz.ntmps63
    go_wp2_with (go_at_call 89;(with_reducible refine (HSP _).mono ?_);rintro e w1 ⟨v1,rfl,hg1⟩;have HBX:=hid ((Bx.make (Ext.refl w) #[.slice none 0 0] 117).later hg1.ext);have HX1:=hid ((Ext.alloc w (.cells #[.slice none 0 0] 117)).trans hg1.ext);obtain ⟨A1,c1,rfl,hr1⟩:=hg1.row;have HR1:=hid hr1;clear hg1 hr1)
    rw [List.length_map] at HR1
    go_loopw [25] (fun i wr=>∃ (j : Nat) (v : Value) (l0 : List (List Ava)),j ≤ P.length ∧ i = .int .i64 j ∧ Hid (GrowR Elem.part 120 (some w1.heap.size) w1 wr v l0) ∧ Hid (Bx w1 wr w1.heap.size 117 #[v]) ∧ Hid ((P.take j).mapM partB = some l0) ∧ Hid (l0.length = j)) (fun i _=>P.length - (intOf i).toNat)
    case atStart=>exact ⟨0,_,[],by omega,rfl,GrowR.nil (Ext.alloc _ _) (fun g hg=>by injection hg with hg;subst hg;simp),Bx.make (Ext.refl w1) _ _,by simp [Hid],rfl⟩
    case round=>
     obtain ⟨j,v,l0,hj,rfl,HGR,HBN,HM,HLN⟩:=hrel
     by_cases hlt : j < P.length
     ·have hlt' : (j : Int) < (P.length : Int):=by omega
      obtain ⟨b,o,p,rfl,hp,e2⟩:=strs_row (HR1.out.ext HGR.out.ext) hlt
      have hpl:=HPL.out p (List.mem_of_getElem? hp)
      have HPA : ∀ w,Gl w → Calls Tryz.prog 90 #[.string (str p)] w (PartSays w p):=fun w hG=>by
       have:=rdnparse_any (str p) w hG (by rw [str_size];omega)
       rwa [bys_str] at this
      unfold PartSays at HPA
      cases hav : partB p with
      | none=>
       rw [hav] at HPA
       have HF:=hid (HNO.out (mapM_none (List.mem_of_getElem? hp) hav))
       clear hp hav
       go_wp2_with (go_at_call 90;(with_reducible refine (HPA _ (HG.out.ext (HX1.out.trans HGR.out.ext))).mono ?_);rintro e w2 ⟨A2,n2,c2,rfl,-,hx2⟩;have HB:=HBX.out.later (HGR.out.ext.trans hx2);have r0:=HB.cell (i:=0) rfl;have f0:=HB.frozen 0;have HBY:=hid HB;clear hx2 HB)
       (try simp only [Exit.inBlock,Exit.then])
       refine ret_cell_tmp _ rfl rfl (HBY.out.setS (.slice none 0 0)) Tryz.underlying117 rfl (by kernel_rfl) rfl ?_
       exact ⟨none,0,0,by rw [HF.out];rfl,by rw [HF.out];exact Row.nil _ _ _,(HBY.out.setS (.slice none 0 0)).ext⟩
      | some x=>
       rw [hav] at HPA
       have HY:=hid (mapM_take HM.out hp hav)
       have HL2 : Hid ((l0 ++ [x]).length = j + 1):=by show _ = _;rw [List.length_append,HLN.out];rfl
       have HNB:=hid (HGR.out.apart w1.heap.size rfl).1
       clear hp hav
       go_wp2_with (first
        | (go_at_call 90;(with_reducible refine (HPA _ (HG.out.ext (HX1.out.trans HGR.out.ext))).mono ?_);rintro e w2 ⟨A2,n2,c2,rfl,hr2,hx2⟩;have HR2:=hid (HGR.out.fresh hx2 (Nat.le_refl _) (E:=Elem.part) (u:=[.slice A2 n2 c2]) (x:=x) ⟨A2,n2,c2,rfl,hr2⟩);have HG2:=hid (HGR.out.later hx2);have HB2:=hid (HBN.out.later hx2);have n0:=HB2.out.cell (i:=0) rfl;clear hr2 hx2)
        | (at_builtin;refine append_part rfl _ _ rfl v l0 rfl HG2.out (A:=A2) (n:=n2) (c:=c2) x (by obtain ⟨A3,n3,c3,he,hr⟩:=HR2.out;injection he with he _;injection he with h1 h2 h3;subst h1 h2 h3;exact hr) rfl (by have:=HLN.out;omega) ?_;intro v' w5 hg5 hgr5 hb5;obtain ⟨A5,c5,rfl,-⟩:=hg5.row;simp only [List.length_append,List.length_cons,List.length_nil,Nat.zero_add] at hg5;have HG5:=hid hg5;have HB5:=(HB2.out.later (Ext.alloc _ _)).grown hgr5 HNB.out hb5;have n1:=HB5.cell (i:=0) rfl;have f1:=HB5.frozen 0;have HB6:=hid HB5;clear hg5 hgr5 hb5 HB5))
       exact ⟨⟨j + 1,_,_,by omega,by go_num,HG5.out.setL 0 _,HB6.out.setS _,HY,HL2⟩,by simp [intOf];omega⟩
     ·obtain rfl : j = P.length:=by omega
      have HMA : Hid (parseS (bys s) = .ok l0):=HYS.out l0 (by rw [← HM.out,List.take_length])
      obtain ⟨A2,c2,rfl,hr2⟩:=HGR.out.row
      have n0:=HBN.out.cell (i:=0) rfl
      have HB:=HBX.out.later HGR.out.ext
      have r0:=HB.cell (i:=0) rfl
      have f0:=HB.frozen 0
      have HBY:=hid HB
      have HR2:=hid hr2
      have hX1:=ext_sz HX1.out
      have hlt0 : Hid (w.heap.size < w1.heap.size):=HBX.out.lt
      clear HB hr2 HNO HYS HM
      go_wp2
      (try simp only [Exit.inBlock,Exit.then])
      refine ret_cell_tmp _ rfl rfl (HBY.out.setS (.slice A2 l0.length c2)) Tryz.underlying117 rfl (by kernel_rfl) rfl ?_
      refine ⟨A2,l0.length,c2,by rw [HMA.out];rfl,?_,(HBY.out.setS (.slice A2 l0.length c2)).ext⟩
      rw [HMA.out]
      refine (HR2.out.same (w':=_) fun b hb=>heap_setCell_other _ _ _ _ ?_).mono fun b _ hb=>Nat.le_trans hX1 hb
      have:=hlt0.out
      show b ≠ w.heap.size
      omega
theorem rdnsparse_any (s : ByteArray) (w : World) (hG : Gl w) : Calls Tryz.prog 40 #[.string s] w (RDnSays w (bys s)):=by
 have HG:=hid hG
 have HPD : Hid (parseS (bys s) = if 1000 < (bys s).length then .error .long else if bys s = [] then .ok [] else if 12 < (splitF 44 [] (bys s)).length then .error .long
  else match (splitF 44 [] (bys s)).mapM partB with | none=>.error .form | some l=>.ok l):=rfl
 clear hG
 by_cases hl : 1000 < s.size
 ·have hl' : 1000 < (s.size : Int):=by omega
  have HF : Hid (parseS (bys s) = .error .long):=by show _ = _;rw [HPD.out,if_pos (by rw [bys_len];exact hl)]
  clear hl HPD
  go_enter Tryz.func40,Tryz.ntmps40
  go_wp2
  go_ret2
  exact ⟨none,0,0,by rw [HF.out];rfl,by rw [HF.out];exact Row.nil _ _ _,Ext.refl _⟩
 ·have hl' : ¬ 1000 < (s.size : Int):=by omega
  have Hs : Hid (s.size ≤ 1000):=by show _ ≤ _;omega
  rw [if_neg (by rw [bys_len];exact hl)] at HPD
  by_cases h0 : s.size = 0
  ·have e1:=emp_yes h0
   have HF : Hid (parseS (bys s) = .ok []):=by show _ = _;rw [HPD.out,if_pos (by rw [str_emp h0];rfl)]
   clear hl h0 HPD
   go_enter Tryz.func40,Tryz.ntmps40
   go_wp2
   go_ret2
   exact ⟨none,0,0,by rw [HF.out];rfl,by rw [HF.out];exact Row.nil _ _ _,Ext.refl _⟩
  ·have e1:=emp_nb h0
   rw [if_neg (fun h=>h0 (by rw [← bys_len,h];rfl))] at HPD
   have HSP : ∀ w,Calls Tryz.prog 70 #[.string s,.int .u8 44] w fun e w'=>∃ v,e = .returned v ∧ GrowS w w' v (strs (splitF 44 [] (bys s))):=fun w=>rsplit_any s 44 (by decide) w (by omega)
   have HPL : Hid (∀ p ∈ splitF 44 [] (bys s),p.length ≤ 1000):=fun p hp=>by have:=piece_le hp;rw [bys_len] at this;omega
   clear hl h0
   generalize splitF 44 [] (bys s) = P at *
   by_cases h12 : 12 < P.length
   ·have h12' : 12 < (P.length : Int):=by omega
    have HF : Hid (parseS (bys s) = .error .long):=by show _ = _;rw [HPD.out,if_pos h12]
    clear h12 HPD
    go_enter Tryz.func40,Tryz.ntmps40
    go_wp2_with (go_at_call 70;(with_reducible refine (HSP _).mono ?_);rintro e w1 ⟨v1,rfl,hg1⟩;have HX1:=hid hg1.ext;obtain ⟨A1,c1,rfl,hr1⟩:=hg1.row;clear hg1 hr1)
    go_ret2
    exact ⟨none,0,0,by rw [HF.out];rfl,by rw [HF.out];exact Row.nil _ _ _,HX1.out⟩
   ·have h12' : ¬ 12 < (P.length : Int):=by omega
    have hn12 : P.length ≤ 12:=by omega
    rw [if_neg h12] at HPD
    have HNO : Hid (P.mapM partB = none → parseS (bys s) = .error .form):=by intro h;rw [HPD.out,h]
    have HYS : Hid (∀ l,P.mapM partB = some l → parseS (bys s) = .ok l):=by intro l h;rw [HPD.out,h]
    clear h12 HPD
    go_enter Tryz.func40,Tryz.ntmps40
    go_wp2_with (go_at_call 70;(with_reducible refine (HSP _).mono ?_);rintro e w1 ⟨v1,rfl,hg1⟩;have HX1:=hid hg1.ext;obtain ⟨A1,c1,rfl,hr1⟩:=hg1.row;have HR1:=hid hr1;clear hg1 hr1)
    rw [List.length_map] at HR1
    go_loopw [5,21] (fun v i wr=>∃ (j : Nat) (l0 : List (List Ava)),j ≤ P.length ∧ i = .int .i64 j ∧ Hid (GrowR Elem.part 93 none w1 wr v l0) ∧ Hid ((P.take j).mapM partB = some l0) ∧ Hid (l0.length = j)) (fun _ i _=>P.length - (intOf i).toNat)
    case atStart=>exact ⟨0,[],by omega,rfl,GrowR.nil (Ext.refl _) (fun g hg=>by cases hg),by simp [Hid],rfl⟩
    case round=>
     obtain ⟨j,l0,hj,rfl,HGR,HM,HLN⟩:=hrel
     by_cases hlt : j < P.length
     ·have hlt' : (j : Int) < (P.length : Int):=by omega
      obtain ⟨b,o,p,rfl,hp,e2⟩:=strs_row (HR1.out.ext HGR.out.ext) hlt
      have hpl:=HPL.out p (List.mem_of_getElem? hp)
      have HPA : ∀ w,Gl w → Calls Tryz.prog 71 #[.string (str p)] w (PartSays w p):=fun w hG=>by
       have:=parsepart_any (str p) w hG (by rw [str_size];omega)
       rwa [bys_str] at this
      unfold PartSays at HPA
      cases hav : partB p with
      | none=>
       rw [hav] at HPA
       have HF:=hid (HNO.out (mapM_none (List.mem_of_getElem? hp) hav))
       clear hp hav
       go_wp2_with (go_at_call 71;(with_reducible refine (HPA _ (HG.out.ext (HX1.out.trans HGR.out.ext))).mono ?_);rintro e w2 ⟨A2,n2,c2,rfl,-,hx2⟩;have HX2:=hid hx2;clear hx2)
       go_ret2
       exact ⟨none,0,0,by rw [HF.out];rfl,by rw [HF.out];exact Row.nil _ _ _,HX1.out.trans (HGR.out.ext.trans HX2.out)⟩
      | some x=>
       rw [hav] at HPA
       have HY:=hid (mapM_take HM.out hp hav)
       have HL2 : Hid ((l0 ++ [x]).length = j + 1):=by show _ = _;rw [List.length_append,HLN.out];rfl
       clear hp hav
       go_wp2_with (first
        | (go_at_call 71;(with_reducible refine (HPA _ (HG.out.ext (HX1.out.trans HGR.out.ext))).mono ?_);rintro e w2 ⟨A2,n2,c2,rfl,hr2,hx2⟩;have HR2:=hid (HGR.out.fresh hx2 (Nat.le_refl _) (E:=Elem.part) (u:=[.slice A2 n2 c2]) (x:=x) ⟨A2,n2,c2,rfl,hr2⟩);have HG2:=hid (HGR.out.later hx2);clear hr2 hx2)
        | (at_builtin;refine rappend_part rfl _ _ rfl _ l0 rfl HG2.out (A:=A2) (n:=n2) (c:=c2) x (by obtain ⟨A3,n3,c3,he,hr⟩:=HR2.out;injection he with he _;injection he with h1 h2 h3;subst h1 h2 h3;exact hr) rfl (by have:=HLN.out;omega) ?_;intro v' w5 hg5 hgr5 hb5;have HG5:=hid hg5;clear hg5 hgr5 hb5))
       exact ⟨⟨j + 1,_,by omega,by go_num,HG5,HY,HL2⟩,by simp [intOf];omega⟩
     ·obtain rfl : j = P.length:=by omega
      have HMA : Hid (parseS (bys s) = .ok l0):=HYS.out l0 (by rw [← HM.out,List.take_length])
      obtain ⟨A2,c2,rfl,hr2⟩:=HGR.out.row
      have HR2:=hid hr2
      clear hr2 HNO HYS HM
      go_wp2
      go_ret2
      refine ⟨A2,l0.length,c2,by rw [HMA.out];rfl,?_,HX1.out.trans HGR.out.ext⟩
      rw [HMA.out]
      exact HR2.out.mono fun b _ hb=>Nat.le_trans (ext_sz HX1.out) hb
end Go.Proofs.YtahahafhendgoaaGreatDoor
