/- Lemmas of the walk. -/
import Derived.Test.YtioglicfndkgiaaGreatDoorZ18
import Derived.Test.YtioglicfndkgiaaGreatDoorZ13
set_option maxHeartbeats 40000000
set_option linter.unusedVariables false
set_option linter.unusedSimpArgs false
namespace Go.Proofs.YtioglicfndkgiaaGreatDoor
open Go.RowKit
set_option maxRecDepth 100000
def cutT (p:List UInt8):List UInt8 × List UInt8 × Bool:=match zdT p with | some (a,r)=>(a,r,true) | none=>(p,[],false)
theorem zmG:∀ {p a r:List UInt8},zdT p=some (a,r)→a.length≤p.length∧r.length≤p.length
 | [],a,r,h=>by cases h
 | c::t,a,r,h=>by
  unfold zdT at h
  split at h
  ·injection h with h
   injection h with h1 h2
   subst h1 h2
   simp
  ·cases hc:zdT t with
   | none=>rw [hc] at h;cases h
   | some q=>
    obtain ⟨u,v⟩:=q
    rw [hc] at h
    cases h
    have:=zmG hc
    simp only [List.length_cons]
    omega
theorem zr5 (p:List UInt8):(cutT p).1.length≤p.length∧(cutT p).2.1.length≤p.length:=by
 unfold cutT
 cases h:zdT p with
 | none=>simp
 | some q=>obtain ⟨a,r⟩:=q;exact zmG h
theorem zq3 (p:List UInt8):avaB p=if (cutT p).2.2=true∧(za9 (cutT p).2.1).isSome=true∧(zar (cutT p).1).1≠[] then some ⟨(zar (cutT p).1).1,(za9 (cutT p).2.1).getD []⟩ else none:=by
 unfold avaB cutT
 cases h:zdT p with
 | none=>simp
 | some q=>
  obtain ⟨a,r⟩:=q
  simp only [true_and]
  by_cases h0:(zar a).2=0
  ·rw [if_pos h0,if_neg (fun k=>k.2 ((zhF a).2 h0))]
  ·have h1:(zar a).1≠[]:=fun k=>h0 ((zhF a).1 k)
   rw [if_neg h0]
   cases hv:za9 r with
   | none=>simp
   | some v=>simp [h1]
theorem zrT (s:ByteArray) (w:World) (hG:Gl w) (hs:s.size≤4000000) :
 Calls Tryz.prog 134 #[.string s,.string ⟨#[61]⟩] w fun e w'=>e=.returned (.tuple #[.string (str (cutT (bys s)).1),.string (str (cutT (bys s)).2.1),.bool (cutT (bys s)).2.2])∧Ext w w':=by
 obtain ⟨m,hm⟩:=hG.maxlen
 refine (Tryz.strings_Cut s ⟨#[61]⟩ m w (by omega) hm).mono ?_
 rintro e w' ⟨rfl,k,rfl⟩
 refine ⟨?_,zlo (Below.refl _ _) k⟩
 have h:Lib.cut s.data.toList (ByteArray.mk #[61]).data.toList=cutT (bys s):=by
  have:=zsD (bys s)
  unfold cutT
  cases hc:zdT (bys s) with
  | none=>rw [hc] at this;exact this
  | some q=>rw [hc] at this;exact this
 rw [h]
theorem zox:∀ {l:List (List UInt8)} {p:List UInt8},p∈l→p.length≤(l.map List.length).sum
 | [],p,h=>by cases h
 | x::t,p,h=>by
  rcases List.mem_cons.1 h with rfl | h
  ·simp
  ·have:=zox h;simp only [List.map_cons,List.sum_cons];omega
theorem zg3 {sep:UInt8} {s p:List UInt8} (h:p∈splitF sep [] s):p.length≤s.length:=by
 have h1:=zox h
 have h2:=(zbA sep _ [] s (Nat.le_refl _)).2.2
 simp only [List.length_nil] at h2
 omega
def zeS (w:World) (s:List UInt8) (e:Ending) (w':World):Prop:=
 ∃ A n c,e=.returned (.tuple #[.slice A n c,.int .i64 (if (zbk s).isSome then 0 else 2)])∧Row Elem.ava (fun b=>w.heap.size≤b) w' A n c ((zbk s).getD [])∧Ext w w'
theorem zfX {S:Nat→Prop} {w:World} {A:Option Addr} {n c:Nat} {P:List (List UInt8)} (h:Row Elem.str S w A n c (strs P)) {j:Nat} (hj:j<n) :
 ∃ b o p,A=some ⟨b,o,none⟩∧P[j]?=some p∧w.cell? ⟨b,o+j,none⟩=some (.string (str p)):=by
 obtain ⟨b,o,v,x,rfl,h1,-,h2,h3⟩:=h.at_ hj
 have hv:v=[.string x]:=h2
 subst hv
 have h4:=zlJ h1
 refine ⟨b,o,bys x,rfl,h4,?_⟩
 have h5:=h3 0 _ rfl
 rw [zaN]
 simpa [Elem.str] using h5
theorem zk8 (s:ByteArray) (w:World) (hG:Gl w) (hs:s.size≤1000000) :
 Calls Tryz.prog 104 #[.string s] w (zeS w (bys s)):=by
 have HG:=hid hG
 have Hs:=hid hs
 have HSP:∀ w,Calls Tryz.prog 103 #[.string s,.int .u8 43] w fun e w'=>∃ v,e=.returned v∧GrowS w w' v (strs (splitF 43 [] (bys s))):=fun w=>zj1 s 43 (by decide) w (by omega)
 have HPL:Hid (∀ p∈splitF 43 [] (bys s),p.length≤1000000):=fun p hp=>by have:=zg3 hp;rw [zaf] at this;omega
 have HPN:Hid ((splitF 43 [] (bys s)).length≤1000001∧1≤(splitF 43 [] (bys s)).length):=by
  have:=zbA 43 _ [] (bys s) (Nat.le_refl _)
  rw [zaf] at this
  exact ⟨by omega,this.2.1⟩
 have HPS:Hid (∀ l l',(splitF 43 [] (bys s)).mapM avaB=some l→Sub l l'→(l.length<20→l'=insF 0 (l.length-1) l)→zbk (bys s)=if zan l' then some l' else none):=fun l l'=>zma
 have HPB:Hid ((splitF 43 [] (bys s)).mapM avaB=none→zbk (bys s)=none):=by intro h;unfold zbk;rw [h]
 clear hG hs
 generalize splitF 43 [] (bys s)=P at *
 go_enter Tryz.func104,Tryz.ntmps104
 go_wp2_with (go_at_call 103;(with_reducible refine (HSP _).mono ?_);rintro e w1 ⟨v1,rfl,hg1⟩;obtain ⟨A1,c1,rfl,hr1⟩:=hg1.row;have HR1:=hid hr1;have HX1:=hid hg1.ext;clear hg1 hr1)
 have hn1:P.length≤1000001:=HPN.out.1
 rw [List.length_map] at HR1
 go_loopw [4,17] (fun v i wr=>∃ (j:Nat) (l0:List Ava),j≤P.length∧i=.int .i64 j∧Hid (GrowA 151 w1 wr v l0)∧Hid ((P.take j).mapM avaB=some l0)∧Hid (l0.length=j)) (fun _ i _=>P.length-(intOf i).toNat)
 case atStart=>exact ⟨0,[],by omega,rfl,GrowA.nil (Ext.refl _),by simp [Hid],rfl⟩
 case round=>
  obtain ⟨j,l0,hj,rfl,HGR,HM,HLN⟩:=hrel
  by_cases hlt:j<P.length
  ·obtain ⟨b,o,p,rfl,hp,e1⟩:=zfX (HR1.out.ext HGR.out.ext) hlt
   have hpl:=HPL.out p (List.mem_of_getElem? hp)
   have HC:∀ w,Gl w→Calls Tryz.prog 134 #[.string (str p),.string ⟨#[61]⟩] w fun e w'=>e=.returned (.tuple #[.string (str (cutT p).1),.string (str (cutT p).2.1),.bool (cutT p).2.2])∧Ext w w':=fun w hG=>by
    have:=zrT (str p) w hG (by rw [zaL];omega)
    rwa [zao] at this
   have HAV:=hid (zq3 p)
   have HCL:=zr5 p
   generalize cutT p=q at *
   obtain ⟨a,r,f⟩:=q
   simp only at HC HAV HCL
   have HT:∀ w,Calls Tryz.prog 61 #[.string (str a)] w (zaT w a):=fun w=>by
    have:=zdg (str a) w (by rw [zaL];simp only [maxLen];omega)
    rwa [zao] at this
   have HV:∀ w,Calls Tryz.prog 135 #[.string (str r)] w (zgs w (za9 r)):=fun w=>by
    have:=zo0 (str r) w (by rw [zaL];omega)
    rwa [zao] at this
   unfold zaT at HT
   unfold zgs at HV
   generalize zar a=tk at *
   obtain ⟨t,k⟩:=tk
   generalize za9 r=vo at *
   simp only at HT HAV
   have HNO:Hid (avaB p=none→zbk (bys s)=none):=fun h=>HPB.out (zer (List.mem_of_getElem? hp) h)
   have HYES:Hid (∀ y,avaB p=some y→(P.take (j+1)).mapM avaB=some (l0++[y])):=fun y h=>zfQ HM.out hp h
   have HL1:=HLN.out
   clear hp
   by_cases hok:f=true∧vo.isSome=true∧t≠[]
   ·obtain ⟨rfl,hv,ht⟩:=hok
    obtain ⟨v,rfl⟩:=Option.isSome_iff_exists.1 hv
    have t0:(t == [])=false:=by rw [beq_eq_false_iff_ne];exact ht
    have HY:=hid (HYES.out ⟨t,v⟩ (by rw [HAV.out,if_pos ⟨rfl,rfl,ht⟩];rfl))
    clear HYES HNO HAV hv ht HL1
    go_wp2_with (first
     | (go_at_call 134;(with_reducible refine (HC _ (HG.out.ext (HX1.out.trans HGR.out.ext))).mono ?_);rintro e w2 ⟨rfl,hx2⟩;have HX2:=hid hx2;clear hx2)
     | (go_at_call 61;(with_reducible refine (HT _).mono ?_);rintro e w3 ⟨rfl,hx3⟩;have HX2':=hid (HX2.out.trans hx3);clear HX2 hx3;have HX2:=HX2';clear HX2')
     | (go_at_call 135;(with_reducible refine (HV _).mono ?_);rintro e w4 ⟨rfl,hx4⟩;have HX2':=hid (HX2.out.trans hx4);clear HX2 hx4;have HX2:=HX2';clear HX2')
     | (at_builtin;refine zhb rfl _ _ rfl _ _ rfl ((HGR.out.later HX2.out).later (Ext.alloc _ _)) _ 1 1 [⟨t,v⟩] rfl rfl (zg4 _ ⟨t,v⟩ _) (by have:=HLN.out;omega) ?_;intro v' w5 hg5;have HG5:=hid hg5;clear hg5))
    exact ⟨⟨j+1,_,by omega,by go_num,HG5,HY,by show _=_;rw [List.length_append,HLN.out];rfl⟩,by simp [intOf];omega⟩
   ·have HF:=hid (HNO.out (by rw [HAV.out,if_neg hok]))
    have hbad:f=false∨(f=true∧vo.isSome=false)∨(f=true∧vo.isSome=true∧(t == [])=true):=by
     cases f
     ·exact .inl rfl
     ·cases hv:vo.isSome
      ·exact .inr (.inl ⟨rfl,rfl⟩)
      ·refine .inr (.inr ⟨rfl,rfl,?_⟩)
       rw [beq_iff_eq]
       by_cases h:t=[]
       ·exact h
       ·exact absurd ⟨rfl,hv,h⟩ hok
    clear HYES HNO HAV hok HL1
    rcases hbad with rfl | ⟨rfl,hb1⟩ | ⟨rfl,hb1,hb2⟩
    all_goals
     go_wp2_with (first
      | (go_at_call 134;(with_reducible refine (HC _ (HG.out.ext (HX1.out.trans HGR.out.ext))).mono ?_);rintro e w2 ⟨rfl,hx2⟩;have HX2:=hid hx2;clear hx2)
      | (go_at_call 61;(with_reducible refine (HT _).mono ?_);rintro e w3 ⟨rfl,hx3⟩;have HX2':=hid (HX2.out.trans hx3);clear HX2 hx3;have HX2:=HX2';clear HX2')
      | (go_at_call 135;(with_reducible refine (HV _).mono ?_);rintro e w4 ⟨rfl,hx4⟩;have HX2':=hid (HX2.out.trans hx4);clear HX2 hx4;have HX2:=HX2';clear HX2')
      )
     go_ret2
     refine ⟨none,0,0,by rw [HF.out];rfl,by rw [HF.out];exact Row.nil _ _ _,HX1.out.trans (HGR.out.ext.trans HX2.out)⟩
  ·obtain rfl:j=P.length:=by omega
   have HMA:Hid (P.mapM avaB=some l0):=by show _=_;rw [← HM.out,List.take_length]
   have hpos:0<l0.length:=by have h1:=HLN.out;have h2:=HPN.out.2;omega
   obtain ⟨g,cap,rfl,hc1,hc2⟩:=HGR.out.form hpos
   have HPA:Hid (∀ l',Sub l0 l'→(l0.length<20→l'=insF 0 (l0.length-1) l0)→zbk (bys s)=if zan l' then some l' else none):=fun l'=>HPS.out l0 l' HMA.out
   have HTY:Hid (∀ a∈l0,a.type.length≤17):=fun a ha=>by
    obtain ⟨x,_,hx⟩:=zgW HMA.out a ha
    exact zjY hx
   have hln:l0.length≤4000000:=by rw [HLN.out];omega
   have HST:=zre HGR.out hln
   unfold zeL at HST
   clear HLN HPS HM hpos hc1 hc2
   go_wp2_with (go_at_call 136;(with_reducible refine HST.mono ?_);rintro e w2 ⟨rfl,⟨l',hg2,hs2,he2⟩,hb2⟩;have HG2:=hid hg2;have HP2:=hid (HPA.out l' hs2 he2);have HT2:=hid hs2;clear hg2 hs2 he2 hb2)
   obtain ⟨A2,c2,hv2,hr2⟩:=HG2.out.row
   injection hv2 with hv3 hv4 hv5
   subst hv3 hv5
   have HR2:=hid hr2
   rw [← hv4] at HR2
   have HFM:=zf4 (HG.out.ext (HX1.out.trans HG2.out.ext)) HR2.out (fun a ha=>by have:=HTY.out a (HT2.out.2 a ha);omega)
   clear hr2 hv4 HST
   cases hf:zan l' with
   | true=>
    rw [hf] at HFM
    have HE:Hid (zbk (bys s)=some l'):=by show _=_;rw [HP2.out,hf];rfl
    clear hf
    go_wp2_with (go_at_call 105;(with_reducible refine HFM.mono ?_);rintro e w3 ⟨rfl,hx3⟩;have HX3:=hid hx3;clear hx3)
    go_ret2
    refine ⟨some ⟨g,0,none⟩,l0.length,cap,by rw [HE.out];rfl,?_,HX1.out.trans (HG2.out.ext.trans HX3.out)⟩
    rw [HE.out]
    exact (HR2.out.ext HX3.out).mono fun _ _ h=>Nat.le_trans (zaD HX1.out) h
   | false=>
    rw [hf] at HFM
    have HE:Hid (zbk (bys s)=none):=by show _=_;rw [HP2.out,hf];rfl
    clear hf
    go_wp2_with (go_at_call 105;(with_reducible refine HFM.mono ?_);rintro e w3 ⟨rfl,hx3⟩;have HX3:=hid hx3;clear hx3)
    go_ret2
    exact ⟨none,0,0,by rw [HE.out];rfl,by rw [HE.out];exact Row.nil _ _ _,HX1.out.trans (HG2.out.ext.trans HX3.out)⟩
end Go.Proofs.YtioglicfndkgiaaGreatDoor
