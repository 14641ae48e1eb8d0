/- Lemmas of the walk. -/
import Derived.Test.YtioglicfndkgiaaGreatDoorZ21
import Derived.Test.YtioglicfndkgiaaGreatDoorZ15
set_option maxHeartbeats 40000000
set_option linter.unusedVariables false
set_option linter.unusedSimpArgs false
namespace Go.Proofs.YtioglicfndkgiaaGreatDoor
open Go.RowKit
set_option maxRecDepth 100000
theorem Bx.setS {w wr:World} {g:Nat} {T:TypeId} {x:Value} (h:Bx w wr g T #[x]) (v:Value):Bx w (wr.setCell ⟨g,0,none⟩ v) g T #[v]:=h.set 0 v
def zbc (s:List UInt8):Except NameErr (List (List Ava)):=
 if 1000<s.length then .error .long
 else if s=[] then .ok []
 else if 12<(splitF 44 [] s).length then .error .long
 else match (splitF 44 [] s).mapM zbk with
  | none=>.error .form
  | some l=>.ok l
def okL {α:Type} (r:Except NameErr (List α)):List α:=match r with | .ok l=>l | .error _=>[]
def zap {α:Type} (r:Except NameErr α):Int:=match r with | .ok _=>0 | .error .long=>4 | .error .form=>2
def zmy (w:World) (s:List UInt8) (e:Ending) (w':World):Prop:=
 ∃ A n c,e=.returned (.tuple #[.agg #[.slice A n c],.int .i64 (zap (zbc s))])∧Row Elem.part (fun b=>w.heap.size≤b) w' A n c (okL (zbc s))∧Ext w w'
def zl7 (w:World) (s:List UInt8) (e:Ending) (w':World):Prop:=
 ∃ A n c,e=.returned (.tuple #[.slice A n c,.int .i64 (zap (zbc s))])∧Row Elem.part (fun b=>w.heap.size≤b) w' A n c (okL (zbc s))∧Ext w w'
theorem zhJ (s:ByteArray) (w:World) (hG:Gl w):Calls Tryz.prog 75 #[.string s] w (zmy w (bys s)):=by
 have HG:=hid hG
 have HPD:Hid (zbc (bys s)=if 1000<(bys s).length then .error .long else if bys s=[] then .ok [] else if 12<(splitF 44 [] (bys s)).length then .error .long
  else match (splitF 44 [] (bys s)).mapM zbk with | none=>.error .form | some l=>.ok l):=rfl
 clear hG
 by_cases hl:1000<s.size
 ·have hl':1000<(s.size:Int):=by omega
  have HF:Hid (zbc (bys s)=.error .long):=by show _=_;rw [HPD.out,if_pos (by rw [zaf];exact hl)]
  have HBX:=hid (Bx.make (Ext.refl w) #[.slice none 0 0] 120)
  clear hl HPD
  go_enter Tryz.func75,Tryz.ntmps75
  go_wp2
  (try simp only [Exit.inBlock,Exit.then])
  refine zas _ rfl rfl HBX.out Tryz.underlying120 rfl (by kernel_rfl) rfl ?_
  exact ⟨none,0,0,by rw [HF.out];rfl,by rw [HF.out];exact Row.nil _ _ _,HBX.out.ext⟩
 ·have hl':¬ 1000<(s.size:Int):=by omega
  have Hs:Hid (s.size≤1000):=by show _≤_;omega
  rw [if_neg (by rw [zaf];exact hl)] at HPD
  by_cases h0:s.size=0
  ·have e1:=zcf h0
   have HF:Hid (zbc (bys s)=.ok []):=by show _=_;rw [HPD.out,if_pos (by rw [zbt h0];rfl)]
   have HBX:=hid (Bx.make (Ext.refl w) #[.slice none 0 0] 120)
   clear hl h0 HPD
   go_enter Tryz.func75,Tryz.ntmps75
   go_wp2
   (try simp only [Exit.inBlock,Exit.then])
   refine zas _ rfl rfl HBX.out Tryz.underlying120 rfl (by kernel_rfl) rfl ?_
   exact ⟨none,0,0,by rw [HF.out];rfl,by rw [HF.out];exact Row.nil _ _ _,HBX.out.ext⟩
  ·have e1:=zdn h0
   rw [if_neg (fun h=>h0 (by rw [← zaf,h];rfl))] at HPD
   have HSP:∀ w,Calls Tryz.prog 103 #[.string s,.int .u8 44] w fun e w'=>∃ v,e=.returned v∧GrowS w w' v (strs (splitF 44 [] (bys s))):=fun w=>zj1 s 44 (by decide) w (by omega)
   have HPL:Hid (∀ p∈splitF 44 [] (bys s),p.length≤1000):=fun p hp=>by have:=zg3 hp;rw [zaf] at this;omega
   clear hl h0
   generalize splitF 44 [] (bys s)=P at *
   by_cases h12:12<P.length
   ·have h12':12<(P.length:Int):=by omega
    have HF:Hid (zbc (bys s)=.error .long):=by show _=_;rw [HPD.out,if_pos h12]
    clear h12 HPD
    go_enter Tryz.func75,Tryz.ntmps75
    go_wp2_with (go_at_call 103;(with_reducible refine (HSP _).mono ?_);rintro e w1 ⟨v1,rfl,hg1⟩;have HB:=(Bx.make (Ext.refl w) #[.slice none 0 0] 120).later hg1.ext;have r0:=HB.cell (i:=0) rfl;have f0:=HB.frozen 0;have HBX:=hid HB;obtain ⟨A1,c1,rfl,hr1⟩:=hg1.row;clear hg1 hr1 HB)
    (try simp only [Exit.inBlock,Exit.then])
    refine zas _ rfl rfl (HBX.out.setS (.slice none 0 0)) Tryz.underlying120 rfl (by kernel_rfl) rfl ?_
    exact ⟨none,0,0,by rw [HF.out];rfl,by rw [HF.out];exact Row.nil _ _ _,(HBX.out.setS (.slice none 0 0)).ext⟩
   ·have h12':¬ 12<(P.length:Int):=by omega
    have hn12:P.length≤12:=by omega
    rw [if_neg h12] at HPD
    have HNO:Hid (P.mapM zbk=none→zbc (bys s)=.error .form):=by intro h;rw [HPD.out,h]
    have HYS:Hid (∀ l,P.mapM zbk=some l→zbc (bys s)=.ok l):=by intro l h;rw [HPD.out,h]
    clear h12 HPD
    go_enter Tryz.func75,Tryz.ntmps75
    go_wp2_with (go_at_call 103;(with_reducible refine (HSP _).mono ?_);rintro e w1 ⟨v1,rfl,hg1⟩;have HBX:=hid ((Bx.make (Ext.refl w) #[.slice none 0 0] 120).later hg1.ext);have HX1:=hid ((Ext.alloc w (.cells #[.slice none 0 0] 120)).trans hg1.ext);obtain ⟨A1,c1,rfl,hr1⟩:=hg1.row;have HR1:=hid hr1;clear hg1 hr1)
    rw [List.length_map] at HR1
    go_loopw [25] (fun i wr=>∃ (j:Nat) (v:Value) (l0:List (List Ava)),j≤P.length∧i=.int .i64 j∧Hid (GrowR Elem.part 123 (some w1.heap.size) w1 wr v l0)∧Hid (Bx w1 wr w1.heap.size 120 #[v])∧Hid ((P.take j).mapM zbk=some l0)∧Hid (l0.length=j)) (fun i _=>P.length-(intOf i).toNat)
    case atStart=>exact ⟨0,_,[],by omega,rfl,GrowR.nil (Ext.alloc _ _) (fun g hg=>by injection hg with hg;subst hg;simp),Bx.make (Ext.refl w1) _ _,by simp [Hid],rfl⟩
    case round=>
     obtain ⟨j,v,l0,hj,rfl,HGR,HBN,HM,HLN⟩:=hrel
     by_cases hlt:j<P.length
     ·have hlt':(j:Int)<(P.length:Int):=by omega
      obtain ⟨b,o,p,rfl,hp,e2⟩:=zfX (HR1.out.ext HGR.out.ext) hlt
      have hpl:=HPL.out p (List.mem_of_getElem? hp)
      have HPA:∀ w,Gl w→Calls Tryz.prog 104 #[.string (str p)] w (zeS w p):=fun w hG=>by
       have:=zk8 (str p) w hG (by rw [zaL];omega)
       rwa [zao] at this
      unfold zeS at HPA
      cases hav:zbk p with
      | none=>
       rw [hav] at HPA
       have HF:=hid (HNO.out (zer (List.mem_of_getElem? hp) hav))
       clear hp hav
       go_wp2_with (go_at_call 104;(with_reducible refine (HPA _ (HG.out.ext (HX1.out.trans HGR.out.ext))).mono ?_);rintro e w2 ⟨A2,n2,c2,rfl,-,hx2⟩;have HB:=HBX.out.later (HGR.out.ext.trans hx2);have r0:=HB.cell (i:=0) rfl;have f0:=HB.frozen 0;have HBY:=hid HB;clear hx2 HB)
       (try simp only [Exit.inBlock,Exit.then])
       refine zas _ rfl rfl (HBY.out.setS (.slice none 0 0)) Tryz.underlying120 rfl (by kernel_rfl) rfl ?_
       exact ⟨none,0,0,by rw [HF.out];rfl,by rw [HF.out];exact Row.nil _ _ _,(HBY.out.setS (.slice none 0 0)).ext⟩
      | some x=>
       rw [hav] at HPA
       have HY:=hid (zfQ HM.out hp hav)
       have HL2:Hid ((l0++[x]).length=j+1):=by show _=_;rw [List.length_append,HLN.out];rfl
       have HNB:=hid (HGR.out.apart w1.heap.size rfl).1
       clear hp hav
       go_wp2_with (first
        | (go_at_call 104;(with_reducible refine (HPA _ (HG.out.ext (HX1.out.trans HGR.out.ext))).mono ?_);rintro e w2 ⟨A2,n2,c2,rfl,hr2,hx2⟩;have HR2:=hid (HGR.out.fresh hx2 (Nat.le_refl _) (E:=Elem.part) (u:=[.slice A2 n2 c2]) (x:=x) ⟨A2,n2,c2,rfl,hr2⟩);have HG2:=hid (HGR.out.later hx2);have HB2:=hid (HBN.out.later hx2);have n0:=HB2.out.cell (i:=0) rfl;clear hr2 hx2)
        | (at_builtin;refine zlQ rfl _ _ rfl v l0 rfl HG2.out (A:=A2) (n:=n2) (c:=c2) x (by obtain ⟨A3,n3,c3,he,hr⟩:=HR2.out;injection he with he _;injection he with h1 h2 h3;subst h1 h2 h3;exact hr) rfl (by have:=HLN.out;omega) ?_;intro v' w5 hg5 hgr5 hb5;obtain ⟨A5,c5,rfl,-⟩:=hg5.row;simp only [List.length_append,List.length_cons,List.length_nil,Nat.zero_add] at hg5;have HG5:=hid hg5;have HB5:=(HB2.out.later (Ext.alloc _ _)).grown hgr5 HNB.out hb5;have n1:=HB5.cell (i:=0) rfl;have f1:=HB5.frozen 0;have HB6:=hid HB5;clear hg5 hgr5 hb5 HB5))
       exact ⟨⟨j+1,_,_,by omega,by go_num,HG5.out.setL 0 _,HB6.out.setS _,HY,HL2⟩,by simp [intOf];omega⟩
     ·obtain rfl:j=P.length:=by omega
      have HMA:Hid (zbc (bys s)=.ok l0):=HYS.out l0 (by rw [← HM.out,List.take_length])
      obtain ⟨A2,c2,rfl,hr2⟩:=HGR.out.row
      have n0:=HBN.out.cell (i:=0) rfl
      have HB:=HBX.out.later HGR.out.ext
      have r0:=HB.cell (i:=0) rfl
      have f0:=HB.frozen 0
      have HBY:=hid HB
      have HR2:=hid hr2
      have hX1:=zaD HX1.out
      have hlt0:Hid (w.heap.size<w1.heap.size):=HBX.out.lt
      clear HB hr2 HNO HYS HM
      go_wp2
      (try simp only [Exit.inBlock,Exit.then])
      refine zas _ rfl rfl (HBY.out.setS (.slice A2 l0.length c2)) Tryz.underlying120 rfl (by kernel_rfl) rfl ?_
      refine ⟨A2,l0.length,c2,by rw [HMA.out];rfl,?_,(HBY.out.setS (.slice A2 l0.length c2)).ext⟩
      rw [HMA.out]
      refine (HR2.out.same (w':=_) fun b hb=>heap_setCell_other _ _ _ _ ?_).mono fun b _ hb=>Nat.le_trans hX1 hb
      have:=hlt0.out
      show b≠w.heap.size
      omega
theorem zjq (s:ByteArray) (w:World) (hG:Gl w):Calls Tryz.prog 87 #[.string s] w (zl7 w (bys s)):=by
 have HG:=hid hG
 have HPD:Hid (zbc (bys s)=if 1000<(bys s).length then .error .long else if bys s=[] then .ok [] else if 12<(splitF 44 [] (bys s)).length then .error .long
  else match (splitF 44 [] (bys s)).mapM zbk with | none=>.error .form | some l=>.ok l):=rfl
 clear hG
 by_cases hl:1000<s.size
 ·have hl':1000<(s.size:Int):=by omega
  have HF:Hid (zbc (bys s)=.error .long):=by show _=_;rw [HPD.out,if_pos (by rw [zaf];exact hl)]
  clear hl HPD
  go_enter Tryz.func87,Tryz.ntmps87
  go_wp2
  go_ret2
  exact ⟨none,0,0,by rw [HF.out];rfl,by rw [HF.out];exact Row.nil _ _ _,Ext.refl _⟩
 ·have hl':¬ 1000<(s.size:Int):=by omega
  have Hs:Hid (s.size≤1000):=by show _≤_;omega
  rw [if_neg (by rw [zaf];exact hl)] at HPD
  by_cases h0:s.size=0
  ·have e1:=zcf h0
   have HF:Hid (zbc (bys s)=.ok []):=by show _=_;rw [HPD.out,if_pos (by rw [zbt h0];rfl)]
   clear hl h0 HPD
   go_enter Tryz.func87,Tryz.ntmps87
   go_wp2
   go_ret2
   exact ⟨none,0,0,by rw [HF.out];rfl,by rw [HF.out];exact Row.nil _ _ _,Ext.refl _⟩
  ·have e1:=zdn h0
   rw [if_neg (fun h=>h0 (by rw [← zaf,h];rfl))] at HPD
   have HSP:∀ w,Calls Tryz.prog 114 #[.string s,.int .u8 44] w fun e w'=>∃ v,e=.returned v∧GrowS w w' v (strs (splitF 44 [] (bys s))):=fun w=>ziJ s 44 (by decide) w (by omega)
   have HPL:Hid (∀ p∈splitF 44 [] (bys s),p.length≤1000):=fun p hp=>by have:=zg3 hp;rw [zaf] at this;omega
   clear hl h0
   generalize splitF 44 [] (bys s)=P at *
   by_cases h12:12<P.length
   ·have h12':12<(P.length:Int):=by omega
    have HF:Hid (zbc (bys s)=.error .long):=by show _=_;rw [HPD.out,if_pos h12]
    clear h12 HPD
    go_enter Tryz.func87,Tryz.ntmps87
    go_wp2_with (go_at_call 114;(with_reducible refine (HSP _).mono ?_);rintro e w1 ⟨v1,rfl,hg1⟩;have HX1:=hid hg1.ext;obtain ⟨A1,c1,rfl,hr1⟩:=hg1.row;clear hg1 hr1)
    go_ret2
    exact ⟨none,0,0,by rw [HF.out];rfl,by rw [HF.out];exact Row.nil _ _ _,HX1.out⟩
   ·have h12':¬ 12<(P.length:Int):=by omega
    have hn12:P.length≤12:=by omega
    rw [if_neg h12] at HPD
    have HNO:Hid (P.mapM zbk=none→zbc (bys s)=.error .form):=by intro h;rw [HPD.out,h]
    have HYS:Hid (∀ l,P.mapM zbk=some l→zbc (bys s)=.ok l):=by intro l h;rw [HPD.out,h]
    clear h12 HPD
    go_enter Tryz.func87,Tryz.ntmps87
    go_wp2_with (go_at_call 114;(with_reducible refine (HSP _).mono ?_);rintro e w1 ⟨v1,rfl,hg1⟩;have HX1:=hid hg1.ext;obtain ⟨A1,c1,rfl,hr1⟩:=hg1.row;have HR1:=hid hr1;clear hg1 hr1)
    rw [List.length_map] at HR1
    go_loopw [5,21] (fun v i wr=>∃ (j:Nat) (l0:List (List Ava)),j≤P.length∧i=.int .i64 j∧Hid (GrowR Elem.part 143 none w1 wr v l0)∧Hid ((P.take j).mapM zbk=some l0)∧Hid (l0.length=j)) (fun _ i _=>P.length-(intOf i).toNat)
    case atStart=>exact ⟨0,[],by omega,rfl,GrowR.nil (Ext.refl _) (fun g hg=>by cases hg),by simp [Hid],rfl⟩
    case round=>
     obtain ⟨j,l0,hj,rfl,HGR,HM,HLN⟩:=hrel
     by_cases hlt:j<P.length
     ·have hlt':(j:Int)<(P.length:Int):=by omega
      obtain ⟨b,o,p,rfl,hp,e2⟩:=zfX (HR1.out.ext HGR.out.ext) hlt
      have hpl:=HPL.out p (List.mem_of_getElem? hp)
      have HPA:∀ w,Gl w→Calls Tryz.prog 115 #[.string (str p)] w (zeS w p):=fun w hG=>by
       have:=zi6 (str p) w hG (by rw [zaL];omega)
       rwa [zao] at this
      unfold zeS at HPA
      cases hav:zbk p with
      | none=>
       rw [hav] at HPA
       have HF:=hid (HNO.out (zer (List.mem_of_getElem? hp) hav))
       clear hp hav
       go_wp2_with (go_at_call 115;(with_reducible refine (HPA _ (HG.out.ext (HX1.out.trans HGR.out.ext))).mono ?_);rintro e w2 ⟨A2,n2,c2,rfl,-,hx2⟩;have HX2:=hid hx2;clear hx2)
       go_ret2
       exact ⟨none,0,0,by rw [HF.out];rfl,by rw [HF.out];exact Row.nil _ _ _,HX1.out.trans (HGR.out.ext.trans HX2.out)⟩
      | some x=>
       rw [hav] at HPA
       have HY:=hid (zfQ HM.out hp hav)
       have HL2:Hid ((l0++[x]).length=j+1):=by show _=_;rw [List.length_append,HLN.out];rfl
       clear hp hav
       go_wp2_with (first
        | (go_at_call 115;(with_reducible refine (HPA _ (HG.out.ext (HX1.out.trans HGR.out.ext))).mono ?_);rintro e w2 ⟨A2,n2,c2,rfl,hr2,hx2⟩;have HR2:=hid (HGR.out.fresh hx2 (Nat.le_refl _) (E:=Elem.part) (u:=[.slice A2 n2 c2]) (x:=x) ⟨A2,n2,c2,rfl,hr2⟩);have HG2:=hid (HGR.out.later hx2);clear hr2 hx2)
        | (at_builtin;refine zk6 rfl _ _ rfl _ l0 rfl HG2.out (A:=A2) (n:=n2) (c:=c2) x (by obtain ⟨A3,n3,c3,he,hr⟩:=HR2.out;injection he with he _;injection he with h1 h2 h3;subst h1 h2 h3;exact hr) rfl (by have:=HLN.out;omega) ?_;intro v' w5 hg5 hgr5 hb5;have HG5:=hid hg5;clear hg5 hgr5 hb5))
       exact ⟨⟨j+1,_,by omega,by go_num,HG5,HY,HL2⟩,by simp [intOf];omega⟩
     ·obtain rfl:j=P.length:=by omega
      have HMA:Hid (zbc (bys s)=.ok l0):=HYS.out l0 (by rw [← HM.out,List.take_length])
      obtain ⟨A2,c2,rfl,hr2⟩:=HGR.out.row
      have HR2:=hid hr2
      clear hr2 HNO HYS HM
      go_wp2
      go_ret2
      refine ⟨A2,l0.length,c2,by rw [HMA.out];rfl,?_,HX1.out.trans HGR.out.ext⟩
      rw [HMA.out]
      exact HR2.out.mono fun b _ hb=>Nat.le_trans (zaD HX1.out) hb
end Go.Proofs.YtioglicfndkgiaaGreatDoor
