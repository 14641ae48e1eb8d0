/- Lemmas of the walk. -/
import Derived.Test.YtkjbokhnpphimaaGreatDoorV31
set_option maxHeartbeats 40000000
set_option linter.unusedVariables false
set_option linter.unusedSimpArgs false
namespace Go.Proofs.YtkjbokhnpphimaaGreatDoor
open Go.RowKit
set_option maxRecDepth 100000
def swq{α:Type}(d:α)(xs:List α)(k:Nat):List α:=(List.range xs.length).map fun j=>if j<k∨xs.length-k≤j then xs[xs.length-1-j]?.getD d else xs[j]?.getD d
section
variable {α:Type}(d:α)
theorem zcM(xs:List α)(k:Nat):(swq d xs k).length=xs.length:=by simp[swq]
theorem zfG(xs:List α)(k j:Nat)(h:j<xs.length):(swq d xs k)[j]?=some (if j<k∨xs.length-k≤j then xs[xs.length-1-j]?.getD d else xs[j]?.getD d):=by
 simp[swq,h]
theorem zqC(xs:List α):swq d xs 0=xs:=by
 apply List.ext_getElem?
 intro j
 by_cases h:j<xs.length
 ·rw[zfG _ _ _ _ h,if_neg (by omega)];simp[h]
 ·rw[List.getElem?_eq_none (by rw[zcM];omega),List.getElem?_eq_none (by omega)]
theorem zsm(xs:List α)(k:Nat)(h:xs.length≤2 * k+1):swq d xs k=xs.reverse:=by
 apply List.ext_getElem?
 intro j
 by_cases hj:j<xs.length
 ·rw[zfG _ _ _ _ hj,List.getElem?_reverse hj]
  have h1:xs.length-1-j<xs.length:=by omega
  by_cases hc:j<k∨xs.length-k≤j
  ·rw[if_pos hc];simp[h1]
  ·rw[if_neg hc,show xs.length-1-j=j by omega];simp[hj]
 ·rw[List.getElem?_eq_none (by rw[zcM];omega),List.getElem?_eq_none (by simp;omega)]
theorem zp8(xs:List α)(k:Nat)(h:2 * k+1<xs.length) :
 ((swq d xs k).set k (xs[xs.length-1-k]?.getD d)).set (xs.length-1-k) (xs[k]?.getD d)=swq d xs (k+1):=by
 apply List.ext_getElem?
 intro j
 by_cases hj:j<xs.length
 ·rw[zfG _ _ _ _ hj]
  by_cases h1:j=xs.length-1-k
  ·subst h1
   rw[List.getElem?_set_self (by simp[zcM];omega),if_pos (by omega)]
   congr 3;omega
  ·rw[List.getElem?_set_ne (by omega)]
   by_cases h2:j=k
   ·subst h2
    rw[List.getElem?_set_self (by simp[zcM];omega),if_pos (by omega)]
   ·rw[List.getElem?_set_ne (by omega),zfG _ _ _ _ hj]
    by_cases h3:j<k∨xs.length-k≤j
    ·rw[if_pos h3,if_pos (by omega)]
    ·rw[if_neg h3,if_neg (by omega)]
 ·rw[List.getElem?_eq_none (by simp[zcM];omega),List.getElem?_eq_none (by rw[zcM];omega)]
end
theorem zj7(base:Nat)(v:Value)(n:Nat)(xs:List ByteArray)(w:World)(hown:w.ownsRow base 9 1 v n (xs.map .string)) :
 Calls Tryz.prog 107 #[v] w fun e w'=>e=.returned (.tuple #[])∧w'.ownsRow base 9 1 v n (xs.reverse.map .string)∧w.grownBy w' v.ownBlock:=by
 have hn:Hid (n=xs.length):=by simpa[Hid] using hown.1.symm
 rcases hown.2 with⟨rfl,rfl⟩|⟨g,cap,cur,rfl,hbg,hg,hnc,hcm,hcs,htake⟩
 ·have hx:xs=[]:=List.eq_nil_of_length_eq_zero hn.out.symm
  subst hx
  clear hn
  go_enter Tryz.func107,Tryz.ntmps107
  go_wp2
  refine wp_loop_once ?_
  go_wp2
  go_end0
  exact⟨rfl,World.ownsRow_nil _ _ _ _,World.grownBy.refl w _⟩
 ·have hcl:n≤9223372036854775807:=by simp only[maxLen] at hcm;omega
  clear hg htake hcs hcm
  go_enter Tryz.func107,Tryz.ntmps107
  go_wp2
  go_loopw [2,3] (fun i j wr=>∃k:Nat,2 * k≤n∧i=.int .i64 k∧j=.int .i64 ((n:Int)-1-k)∧wr.ownsRow base 9 1 (.slice (some ⟨g,0,none⟩) n cap) n ((swq ByteArray.empty xs k).map .string)∧w.grownBy wr (some g)) (fun i _ _=>n-2 * (intOf i).toNat)
  case atStart=>exact⟨0,by omega,rfl,by simp,by rw[zqC];exact hown,World.grownBy.refl w _⟩
  case round=>
   obtain⟨k,hk,rfl,rfl,ho,hgr⟩:=hrel
   by_cases hlt:2 * k+1<n
   ·have c1:wr.cell? ⟨g,k,none⟩=some (.string (xs[k]?.getD ByteArray.empty)):=by
     rw[ho.cellAt k (by omega),List.getElem?_map,zfG _ _ _ _ (by have:=hn.out;omega),if_neg (by have:=hn.out;omega)];rfl
    have c2:wr.cell? ⟨g,n-1-k,none⟩=some (.string (xs[n-1-k]?.getD ByteArray.empty)):=by
     rw[ho.cellAt _ (by omega),List.getElem?_map,zfG _ _ _ _ (by have:=hn.out;omega),if_neg (by have:=hn.out;omega)];rfl
    have f1:=ho.frozenAt k
    have f2:=ho.frozenAt (n-1-k)
    go_wp2
    go_region
    go_wp2
    go_roundw
    case rel=>
     have s1:=(ho.stored k (.string (xs[n-1-k]?.getD ByteArray.empty)))
     have s2:=s1.1.stored (n-1-k) (.string (xs[k]?.getD ByteArray.empty))
     refine⟨k+1,by omega,by go_num,by go_num,?_,⟨(hgr.trans (s1.2.trans s2.2)).os,(hgr.trans (s1.2.trans s2.2)).tape,(hgr.trans (s1.2.trans s2.2)).output,(hgr.trans (s1.2.trans s2.2)).size,(hgr.trans (s1.2.trans s2.2)).block⟩⟩
     have:=s2.1
     rw[←List.map_set,←List.map_set,hn.out,zp8 _ xs k (by have:=hn.out;omega),←hn.out] at this
     exact this
    case measure=>simp[intOf];omega
   ·go_wp2
    go_end0
    refine⟨rfl,?_,hgr⟩
    rw[←zsm ByteArray.empty xs k (by have:=hn.out;omega)]
    exact ho
theorem GrowS.reversed{w wr:World}{v:Value}{l:List ByteArray}(h:GrowS w wr v l) :
 Calls Tryz.prog 107 #[v] wr fun e w'=>e=.returned (.tuple #[])∧GrowS w w' v l.reverse∧wr.grownBy w' v.ownBlock:=
 (zj7 _ v _ l wr h.own).mono fun e w' ⟨h1,h2,h3⟩=>⟨h1,⟨by rw[List.length_reverse];exact h2,Below.trans h.ext (zbM h.own h3 (zaz h.ext) (Nat.le_refl _))⟩,h3⟩
theorem znr(a b:ByteArray)(w:World):Calls Tryz.prog 144 #[.string a,.string b] w fun e w'=>e=.returned (.int .i64 (Lib.compareBytes (bys a) (bys b)))∧Ext w w':=by
 have hN:∀(s:ByteArray) w,Calls Tryz.prog 176 #[.string s] w fun e w'=>e=.returned (.bool false)∧Ext w w':=by
  intro s w
  have e0:(s.toList==s.toList)=true:=beq_self_eq_true _
  go_enter Tryz.func176,Tryz.ntmps176
  go_wp2
  go_ret
  exact⟨rfl,Ext.refl _⟩
 rcases zow (bys a) (bys b) with⟨h1,h2⟩|⟨h1,h2⟩|⟨h1,h2⟩
 rw[h1]
 have l1:=geqB h2
 rotate_left
 rw[h1]
 have l1:=geqB (r:=false) (show ltB (bys a) (bys b)=false by rw[h2];exact zbF _)
 have l2:(a.toList==b.toList)=true:=zco (by rw[←zaK a,h2,zaK])
 rotate_left
 rw[h1]
 have l1:=geqB (r:=false) (zcY _ _ h2)
 have l2:(a.toList==b.toList)=false:=zch (fun e=>by rw[e,zbF] at h2;cases h2)
 rotate_left
 all_goals
  clear h1 h2
  go_enter Tryz.func144,Tryz.ntmps144
  go_wp2_with (go_at_call 176;first
   |((with_reducible refine(hN a _).mono ?_);rintro e w1 ⟨rfl,hx1⟩;have HX1:=hid hx1;clear hx1)
   | ((with_reducible refine (hN b _).mono ?_);rintro e w2 ⟨rfl,hx2⟩;have HX2:=hid (HX1.out.trans hx2);clear hx2))
  go_ret
  exact⟨rfl,HX2.out⟩
theorem zsT(x y:List UInt8)(xs ys:List (List UInt8)):cmpL (x::xs) (y::ys)=if Lib.compareBytes x y=0 then cmpL xs ys else Lib.compareBytes x y:=by
 rw[show cmpL (x::xs) (y::ys)=(if ltB x y then -1 else if ltB y x then 1 else cmpL xs ys) from rfl]
 rcases zow x y with⟨h1,h2⟩|⟨h1,h2⟩|⟨h1,h2⟩
 ·rw[h1,h2];simp
 ·rw[h1,h2,zbF];simp
 ·rw[h1,h2,zcY _ _ h2];simp
theorem zjM{S T:Nat→Prop}{A B:Option Addr}{n c m d:Nat}{x y:List (List UInt8)}{w:World}(h:Row Elem.str S w A n c (strs x))(k:Row Elem.str T w B m d (strs y)) :
 Calls Tryz.prog 108 #[.slice A n c,.slice B m d] w fun e w'=>e=.returned (.int .i64 (cmpL x y))∧Ext w w':=by
 have hl:Hid (n=x.length):=by show _=_;rw[h.len,List.length_map]
 have kl:Hid (m=y.length):=by show _=_;rw[k.len,List.length_map]
 have hnl:n≤9223372036854775807:=by have:=h.cap;have:=h.most;simp only[maxLen] at this;omega
 have hml:m≤9223372036854775807:=by have:=k.cap;have:=k.most;simp only[maxLen] at this;omega
 have HR:=hid h
 have KR:=hid k
 clear h k
 have HCM:∀(a b:List UInt8) w,Calls Tryz.prog 144 #[.string (str a),.string (str b)] w fun e w'=>e=.returned (.int .i64 (Lib.compareBytes a b))∧Ext w w':=fun a b w=>by
  have:=znr (str a) (str b) w
  rwa[zao a,zao b] at this
 go_enter Tryz.func108,Tryz.ntmps108
 go_wp2
 go_loopw [11] (fun i wr=>∃j:Nat,j≤n∧i=.int .i64 j∧Hid (j≤m∧cmpL x y=cmpL (x.drop j) (y.drop j))∧Hid (Ext w wr)) (fun i _=>n-(intOf i).toNat)
 case atStart=>exact⟨0,by omega,rfl,⟨Nat.zero_le _,rfl⟩,Ext.refl w⟩
 case round=>
  obtain⟨j,hj,rfl,HE,hx⟩:=hrel
  by_cases hlt:j<n
  ·obtain⟨b1,o1,rfl,c1⟩:=(HR.out.ext hx.out).str_cell (by omega)
   have e1:=c1 j hlt
   obtain⟨a,ha⟩:∃a,x[j]?=some a:=⟨_,List.getElem?_eq_getElem (by rw[←hl.out];exact hlt)⟩
   rw[List.getElem?_map,ha] at e1
   simp only[Option.map_some,Option.getD_some] at e1
   have HDA:Hid (x.drop j=a::x.drop (j+1)):=by show _=_;rw[←List.getElem_cons_drop (h:=by rw[←hl.out];exact hlt)];rw[List.getElem?_eq_getElem (by rw[←hl.out];exact hlt)] at ha;injection ha with ha;rw[ha]
   clear c1 ha
   by_cases hm:j<m
   ·obtain⟨b2,o2,rfl,c2⟩:=(KR.out.ext hx.out).str_cell (by omega)
    have e2:=c2 j hm
    obtain⟨b,hb⟩:∃b,y[j]?=some b:=⟨_,List.getElem?_eq_getElem (by rw[←kl.out];exact hm)⟩
    rw[List.getElem?_map,hb] at e2
    simp only[Option.map_some,Option.getD_some] at e2
    have HDB:Hid (y.drop j=b::y.drop (j+1)):=by show _=_;rw[←List.getElem_cons_drop (h:=by rw[←kl.out];exact hm)];rw[List.getElem?_eq_getElem (by rw[←kl.out];exact hm)] at hb;injection hb with hb;rw[hb]
    clear c2 hb
    have HN:Hid (cmpL x y=if Lib.compareBytes a b=0 then cmpL (x.drop (j+1)) (y.drop (j+1)) else Lib.compareBytes a b):=by show _=_;rw[HE.out.2,HDA.out,HDB.out,zsT]
    have hm':¬(m:Int)≤(j:Int):=by omega
    have HCX:=HCM a b
    clear HCM HDA HDB
    generalize Lib.compareBytes a b=k at*
    by_cases hk:k=0
    ·rw[if_pos hk] at HN
     subst hk
     go_wp2_with(go_at_call 144;(with_reducible refine(HCX _).mono ?_);rintro e w1 ⟨rfl,hx1⟩;have HX1:=hid (hx.out.trans hx1);clear hx1)
     exact⟨⟨j+1,by omega,by go_num,⟨by omega,HN.out⟩,HX1.out⟩,by simp[intOf];omega⟩
    ·rw[if_neg hk] at HN
     have hk':(k != 0)=true:=by rw[bne_iff_ne];exact hk
     go_wp2_with(go_at_call 144;(with_reducible refine(HCX _).mono ?_);rintro e w1 ⟨rfl,hx1⟩;have HX1:=hid (hx.out.trans hx1);clear hx1)
     go_ret
     exact⟨by rw[HN.out];rfl,HX1.out⟩
   ·have hm':(m:Int)≤(j:Int):=by omega
    have HN:Hid (cmpL x y=1):=by
     show _=_
     rw[HE.out.2,HDA.out,List.drop_eq_nil_of_le (show y.length≤j by rw[←kl.out];omega)]
     rfl
    clear HCM HDA
    go_wp2
    go_ret
    exact⟨by rw[HN.out];rfl,hx.out⟩
  ·obtain rfl:j=n:=by omega
   clear HCM
   by_cases hm:j<m
   ·have hm':(j:Int)<(m:Int):=by omega
    have HN:Hid (cmpL x y = -1):=by
     show _=_
     rw[HE.out.2,List.drop_eq_nil_of_le (show x.length≤j by rw[←hl.out];exact Nat.le_refl _)]
     cases hd:y.drop j with
     |nil=>have:=congrArg List.length hd;rw[List.length_drop,←kl.out] at this;simp at this;omega
     |cons a t=>rfl
    go_wp2
    go_ret
    exact⟨by rw[HN.out];rfl,hx.out⟩
   ·have hm':¬(j:Int)<(m:Int):=by omega
    have HN:Hid (cmpL x y=0):=by
     show _=_
     rw[HE.out.2,List.drop_eq_nil_of_le (show x.length≤j by rw[←hl.out];exact Nat.le_refl _),List.drop_eq_nil_of_le (show y.length≤j by rw[←kl.out];omega)]
     rfl
    go_wp2
    go_ret
    exact⟨by rw[HN.out];rfl,hx.out⟩
theorem GrowS.apart{w w1 w2:World}{v1 v2:Value}{l1 l2:List ByteArray}(h1:GrowS w w1 v1 l1)(h2:GrowS w1 w2 v2 l2):(v2.ownBlock=none∨v2.ownBlock≠v1.ownBlock)∧(v1.ownBlock=none∨v1.ownBlock≠v2.ownBlock):=by
 have key:∀k,v2.ownBlock=some k→v1.ownBlock=some k→False:=fun k e2 e1=>by
  have q2:=(h2.own.lt k e2).1
  have q1:=(h1.own.lt k e1).2
  omega
 constructor
 ·cases hv:v2.ownBlock with
  |none=>exact .inl rfl
  |some k=>exact .inr fun e=>key k hv e.symm
 ·cases hv:v1.ownBlock with
  |none=>exact .inl rfl
  |some k=>exact .inr fun e=>key k e.symm hv
theorem GrowS.rev1{w w1 w2 w3:World}{v1 v2:Value}{l1 l2 r1:List ByteArray}(h1:GrowS w w1 v1 l1)(h2:GrowS w1 w2 v2 l2)(h3:GrowS w w3 v1 r1)(g3:w2.grownBy w3 v1.ownBlock):GrowS w w3 v2 l2:=
 ⟨zgL (h2.own.kept g3 (h1.apart h2).1) (zaz h1.ext),h3.ext⟩
theorem GrowS.rev2{w w1 w2 w3 w4:World}{v1 v2:Value}{l1 l2 r1 r2:List ByteArray}(h1:GrowS w w1 v1 l1)(h2:GrowS w1 w2 v2 l2)(h3:GrowS w w3 v1 r1)(h4:GrowS w w4 v2 r2)(g4:w3.grownBy w4 v2.ownBlock):GrowS w w4 v1 r1:=
 ⟨h3.own.kept g4 (h1.apart h2).2,h4.ext⟩
theorem GrowS.rowN{w wr:World}{v:Value}{l:List ByteArray}(h:GrowS w wr v l):∃A n c,v=.slice A n c∧Row Elem.str (fun b=>w.heap.size≤b) wr A n c l:=by
 obtain⟨A,c,h1,h2⟩:=h.row
 exact⟨A,_,c,h1,h2⟩
theorem zqY(l:List (List UInt8)):(strs l).reverse=strs l.reverse:=(List.map_reverse).symm
theorem zdO(a b:ByteArray)(w:World)(hG:Gl w):Calls Tryz.prog 60 #[.string a,.string b] w fun e w'=>e=.returned (.int .i64 (zbc (bys a) (bys b)))∧Ext w w':=by
 have HG:=hid hG
 have HPA:∀w,Gl w→Calls Tryz.prog 63 #[.string a] w (TextsOwn w (bys a)):=fun w hG=>zhM a w hG
 have HPB:∀w,Gl w→Calls Tryz.prog 63 #[.string b] w (TextsOwn w (bys b)):=fun w hG=>zhM b w hG
 unfold TextsOwn at HPA HPB
 have HUD:Hid (zbc (bys a) (bys b)=if zaJ (zak (bys a))=0∧zaJ (zak (bys b))=0 then cmpL (okL (zak (bys a))).reverse (okL (zak (bys b))).reverse else 0):=rfl
 clear hG
 generalize zak (bys a)=pa at*
 generalize zak (bys b)=pb at*
 generalize zbc (bys a) (bys b)=u at*
 generalize okL pa=la at*
 generalize okL pb=lb at*
 generalize zaJ pa=ca at*
 generalize zaJ pb=cb at*
 by_cases h1:ca=0
 ·have t1:(ca != 0)=false:=by rw[bne_eq_false_iff_eq];exact h1
  by_cases h2:cb=0
  ·have t2:(cb != 0)=false:=by rw[bne_eq_false_iff_eq];exact h2
   rw[if_pos ⟨h1,h2⟩] at HUD
   clear h1 h2
   have HRA:∀(w':World) v l,GrowS w w' v (strs l)→Calls Tryz.prog 107 #[v] w' fun e w''=>e=.returned (.tuple #[])∧GrowS w w'' v (strs l.reverse)∧w'.grownBy w'' v.ownBlock:=fun w' v l h=>by have:=h.reversed;rwa[zqY] at this
   have HSC:∀(S T:Nat→Prop) A n c B m d w',Row Elem.str S w' A n c (strs la.reverse)→Row Elem.str T w' B m d (strs lb.reverse)→Calls Tryz.prog 108 #[.slice A n c,.slice B m d] w' fun e w''=>e=.returned (.int .i64 (cmpL la.reverse lb.reverse))∧Ext w' w'':=fun S T A n c B m d w' h k=>zjM h k
   go_enter Tryz.func60,Tryz.ntmps60
   go_wp2_with (first
    | (go_at_call 63;first
     |((with_reducible refine(HPA _ HG.out).mono ?_);rintro e w1 ⟨v1,rfl,hr1⟩;have HR1:=hid hr1;clear hr1)
     | ((with_reducible refine (HPB _ (HG.out.ext HR1.out.ext)).mono ?_);rintro e w2 ⟨v2,rfl,hr2⟩;have HR2:=hid hr2;clear hr2))
    | (go_at_call 107;first
     |((with_reducible refine(HRA _ _ _ (HR1.out.later HR2.out.ext)).mono ?_);rintro e w3 ⟨rfl,hr3,hg3⟩;have HR3:=hid hr3;have HR4:=hid (HR1.out.rev1 HR2.out hr3 hg3);clear hr3 hg3)
     | ((with_reducible refine (HRA _ _ _ HR4.out).mono ?_);rintro e w4 ⟨rfl,hr4,hg4⟩;have HR5:=hid (HR1.out.rev2 HR2.out HR3.out hr4 hg4);have HR6:=hid hr4;clear hr4 hg4;obtain ⟨A5,n5,c5,rfl,hq5⟩:=HR5.out.rowN;obtain ⟨A6,n6,c6,rfl,hq6⟩:=HR6.out.rowN;have HQ5:=hid hq5;have HQ6:=hid hq6;clear hq5 hq6))
    | (go_at_call 108;(with_reducible refine (HSC _ _ _ _ _ _ _ _ _ HQ5.out HQ6.out).mono ?_);rintro e w5 ⟨rfl,hx5⟩;have HX5:=hid (HR5.out.ext.trans hx5);clear hx5))
   go_ret
   exact⟨by rw[HUD.out];rfl,HX5.out⟩
  ·have t2:(cb != 0)=true:=by rw[bne_iff_ne];exact h2
   rw[if_neg (fun h=>h2 h.2)] at HUD
   clear h1 h2
   go_enter Tryz.func60,Tryz.ntmps60
   go_wp2_with (go_at_call 63;first
    |((with_reducible refine(HPA _ HG.out).mono ?_);rintro e w1 ⟨v1,rfl,hr1⟩;have HR1:=hid hr1;clear hr1)
    | ((with_reducible refine (HPB _ (HG.out.ext HR1.out.ext)).mono ?_);rintro e w2 ⟨v2,rfl,hr2⟩;have HR2:=hid hr2;clear hr2))
   go_ret
   exact⟨by rw[HUD.out];rfl,HR1.out.ext.trans HR2.out.ext⟩
 ·have t1:(ca != 0)=true:=by rw[bne_iff_ne];exact h1
  rw[if_neg (fun h=>h1 h.1)] at HUD
  clear h1
  go_enter Tryz.func60,Tryz.ntmps60
  go_wp2_with (go_at_call 63;first
   |((with_reducible refine(HPA _ HG.out).mono ?_);rintro e w1 ⟨v1,rfl,hr1⟩;have HR1:=hid hr1;clear hr1)
   | ((with_reducible refine (HPB _ (HG.out.ext HR1.out.ext)).mono ?_);rintro e w2 ⟨v2,rfl,hr2⟩;have HR2:=hid hr2;clear hr2))
  go_ret
  exact⟨by rw[HUD.out];rfl,HR1.out.ext.trans HR2.out.ext⟩
theorem zi4{x y:List (List UInt8)}{j:Nat}{a b:List UInt8}(h:cmpL x.reverse y.reverse=cmpL (x.reverse.drop j) (y.reverse.drop j))(ha:x[x.length-(j+1)]?=some a)(hb:y[y.length-(j+1)]?=some b)(hj:j<x.length)(hk:j<y.length) :
 cmpL x.reverse y.reverse=if ltB a b then -1 else if ltB b a then 1 else cmpL (x.reverse.drop (j+1)) (y.reverse.drop (j+1)):=by
 have h1:x.reverse.drop j=a::x.reverse.drop (j+1):=by
  have e:x.reverse[j]?=some a:=by rw[List.getElem?_reverse hj,←ha];congr 1;omega
  have hl:=(List.getElem?_eq_some_iff.1 e).1
  rw[←List.getElem_cons_drop (h:=hl)]
  rw[List.getElem?_eq_getElem hl] at e;injection e with e;rw[e]
 have h2:y.reverse.drop j=b::y.reverse.drop (j+1):=by
  have e:y.reverse[j]?=some b:=by rw[List.getElem?_reverse hk,←hb];congr 1;omega
  have hl:=(List.getElem?_eq_some_iff.1 e).1
  rw[←List.getElem_cons_drop (h:=hl)]
  rw[List.getElem?_eq_getElem hl] at e;injection e with e;rw[e]
 rw[h,h1,h2]
 rfl
theorem znz{S T:Nat→Prop}{A B:Option Addr}{n c m d:Nat}{x y:List (List UInt8)}{w:World}(h:Row Elem.str S w A n c (strs x))(k:Row Elem.str T w B m d (strs y))(hn:n≤1000000)(hm:m≤1000000) :
 Calls Tryz.prog 96 #[.slice A n c,.slice B m d] w fun e w'=>e=.returned (.int .i64 (cmpL x.reverse y.reverse))∧Ext w w':=by
 have hl:Hid (n=x.length):=by show _=_;rw[h.len,List.length_map]
 have kl:Hid (m=y.length):=by show _=_;rw[k.len,List.length_map]
 have HR:=hid h
 have KR:=hid k
 clear h k
 go_enter Tryz.func96,Tryz.ntmps96
 go_wp2
 go_loopw [5] (fun i wr=>∃i1:Nat,1≤i1∧i1≤n+1∧i1≤m+1∧i=.int .i64 (i1:Int)∧Hid (cmpL x.reverse y.reverse=cmpL (x.reverse.drop (i1-1)) (y.reverse.drop (i1-1)))∧Hid (Ext w wr)) (fun i _=>n+1-(intOf i).toNat)
 case atStart=>exact⟨1,by omega,by omega,by omega,rfl,rfl,Ext.refl w⟩
 case round=>
  obtain⟨i1,hi0,hj,hjm,rfl,HE,hx⟩:=hrel
  obtain⟨j,HJ⟩:∃j,Hid (j=i1-1):=⟨_,rfl⟩
  have hji:j<i1:=by have:=HJ.out;omega
  have hij:i1≤j+1:=by have:=HJ.out;omega
  rw[←HJ.out] at HE
  by_cases hlt:j<n
  ·have t1:(i1:Int)≤(n:Int):=by omega
   by_cases hltm:j<m
   ·have t2:(i1:Int)≤(m:Int):=by omega
    obtain⟨p,hp⟩:∃p,p=n-i1:=⟨_,rfl⟩
    obtain⟨q,hq⟩:∃q,q=m-i1:=⟨_,rfl⟩
    have z1:(n:Int)-(i1:Int)=(p:Int):=by omega
    have z2:(m:Int)-(i1:Int)=(q:Int):=by omega
    have z3:p<n:=by omega
    have z4:q<m:=by omega
    obtain⟨b1,o1,rfl,c1⟩:=(HR.out.ext hx.out).str_cell (by omega)
    obtain⟨b2,o2,rfl,c2⟩:=(KR.out.ext hx.out).str_cell (by omega)
    have e1:=c1 p z3
    have e2:=c2 q z4
    obtain⟨a,ha⟩:∃a,x[p]?=some a:=⟨_,List.getElem?_eq_getElem (by rw[←hl.out];exact z3)⟩
    obtain⟨b,hb⟩:∃b,y[q]?=some b:=⟨_,List.getElem?_eq_getElem (by rw[←kl.out];exact z4)⟩
    rw[List.getElem?_map,ha] at e1
    rw[List.getElem?_map,hb] at e2
    simp only[Option.map_some,Option.getD_some] at e1 e2
    have HN:=hid (zi4 HE.out (by rw[←hl.out,show n-(j+1)=p by omega];exact ha) (by rw[←kl.out,show m-(j+1)=q by omega];exact hb) (by rw[←hl.out];exact hlt) (by rw[←kl.out];exact hltm))
    obtain⟨sa,HSA⟩:∃sa,Hid (sa=str a):=⟨_,rfl⟩
    obtain⟨sb,HSB⟩:∃sb,Hid (sb=str b):=⟨_,rfl⟩
    rw[←HSA.out] at e1
    rw[←HSB.out] at e2
    clear c1 c2 ha hb hp hq
    have z5:(p:Int)<(n:Int):=by omega
    have z6:(q:Int)<(m:Int):=by omega
    cases l1:ltB a b with
    |true=>
     rw[l1] at HN
     have f1:=geqB (a:=sa) (b:=sb) (r:=true) (by rw[HSA.out,HSB.out,zao a,zao b];exact l1)
     clear l1
     go_wp2
     refine zac (.read 0 (.read 1 (.read 2 (.read 3 (.read 4 (.read 5 (.read 6 (.read 7 (.read 8 (.read 9 (.read 10 (.read 11 (.read 12 (.read 13 (.read 14 (.read 15 .done)))))))))))))))) (by kernel_rfl) (by kernel_rfl) ?_
     intro wD hxD
     have c1:=zaa (zaa e1 _ hxD)
     have c2:=zaa (zaa e2 _ hxD)
     repeat' ((first
      |refine zaf rfl rfl ?_
      |refine zad rfl rfl ?_
      |refine zai rfl rfl ?_
      |refine zab rfl rfl ?_
      |(refine zae (v:=?_) rfl rfl (fun w' hE=>?_) ?_;rotate_left 1;(· ((try(have hEx:=Ext.trans (Hid.out XE) hE));go_simp;(try go_bits);with_reducible rfl)))
      |refine walks_alt ?_ ?_
      | (refine zah rfl rfl (fun K hK=>?_);go_wp2_with (fail);refine hK _ _ (by first | assumption | exact Ext.alloc _ _ | exact Ext.refl _) ?_;clear hK K));try simp only [Act.put,Act.eval,evs])
     refine zag ?_
     go_wp2
     go_ret
     exact⟨by rw[HN.out];rfl,hx.out.trans hxD⟩
    |false=>
     have f1:=geqB (a:=sa) (b:=sb) (r:=false) (by rw[HSA.out,HSB.out,zao a,zao b];exact l1)
     cases l2:ltB b a with
     |true=>
      rw[l1,l2] at HN
      have f2:(sa.toList==sb.toList)=false:=zch (fun e=>by rw[HSA.out,HSB.out] at e;have e2:=congrArg bys e;rw[zao a,zao b] at e2;rw[e2,zbF] at l2;cases l2)
      clear l1 l2
      go_wp2
      refine zac (.read 0 (.read 1 (.read 2 (.read 3 (.read 4 (.read 5 (.read 6 (.read 7 (.read 8 (.read 9 (.read 10 (.read 11 (.read 12 (.read 13 (.read 14 (.read 15 .done)))))))))))))))) (by kernel_rfl) (by kernel_rfl) ?_
      intro wD hxD
      have c1:=zaa (zaa e1 _ hxD)
      have c2:=zaa (zaa e2 _ hxD)
      repeat' ((first
       |refine zaf rfl rfl ?_
       |refine zad rfl rfl ?_
       |refine zai rfl rfl ?_
       |refine zab rfl rfl ?_
       |(refine zae (v:=?_) rfl rfl (fun w' hE=>?_) ?_;rotate_left 1;(· ((try(have hEx:=Ext.trans (Hid.out XE) hE));go_simp;(try go_bits);with_reducible rfl)))
       |refine walks_alt ?_ ?_
       | (refine zah rfl rfl (fun K hK=>?_);go_wp2_with (fail);refine hK _ _ (by first | assumption | exact Ext.alloc _ _ | exact Ext.refl _) ?_;clear hK K));try simp only [Act.put,Act.eval,evs])
      refine zag ?_
      go_wp2
      go_ret
      exact⟨by rw[HN.out];rfl,hx.out.trans hxD⟩
     |false=>
      rw[l1,l2] at HN
      have f2:(sa.toList==sb.toList)=true:=zco (by rw[HSA.out,HSB.out,ze6 _ _ l1 l2])
      clear l1 l2
      go_wp2
      refine zac (.read 0 (.read 1 (.read 2 (.read 3 (.read 4 (.read 5 (.read 6 (.read 7 (.read 8 (.read 9 (.read 10 (.read 11 (.read 12 (.read 13 (.read 14 (.read 15 .done)))))))))))))))) (by kernel_rfl) (by kernel_rfl) ?_
      intro wD hxD
      have c1:=zaa (zaa e1 _ hxD)
      have c2:=zaa (zaa e2 _ hxD)
      repeat' ((first
       |refine zaf rfl rfl ?_
       |refine zad rfl rfl ?_
       |refine zai rfl rfl ?_
       |refine zab rfl rfl ?_
       |(refine zae (v:=?_) rfl rfl (fun w' hE=>?_) ?_;rotate_left 1;(· ((try(have hEx:=Ext.trans (Hid.out XE) hE));go_simp;(try go_bits);with_reducible rfl)))
       |refine walks_alt ?_ ?_
       | (refine zah rfl rfl (fun K hK=>?_);go_wp2_with (fail);refine hK _ _ (by first | assumption | exact Ext.alloc _ _ | exact Ext.refl _) ?_;clear hK K));try simp only [Act.put,Act.eval,evs])
      refine zag ?_
      go_wp2
      exact⟨⟨i1+1,by omega,by omega,by omega,by go_num,by rw[show i1+1-1=j+1 by omega];exact HN.out,hx.out.trans hxD⟩,by simp[intOf];omega⟩
   ·have t2:decide ((i1:Int)≤(m:Int))=false:=by rw[decide_eq_false_iff_not];omega
    have t3:¬(n:Int)<(m:Int):=by omega
    have t4:(m:Int)<(n:Int):=by omega
    have HN:Hid (cmpL x.reverse y.reverse=1):=by
     show _=_
     rw[HE.out,List.drop_eq_nil_of_le (show y.reverse.length≤j by rw[List.length_reverse,←kl.out];omega)]
     cases hd:x.reverse.drop j with
     |nil=>have:=congrArg List.length hd;rw[List.length_drop,List.length_reverse,←hl.out] at this;simp at this;omega
     |cons a t=>rfl
    go_wp2
    go_ret
    exact⟨by rw[HN.out];rfl,hx.out⟩
  ·obtain rfl:j=n:=by omega
   have t1:decide ((i1:Int)≤(j:Int))=false:=by rw[decide_eq_false_iff_not];omega
   by_cases hm':j<m
   ·have t3:(j:Int)<(m:Int):=by omega
    have HN:Hid (cmpL x.reverse y.reverse = -1):=by
     show _=_
     rw[HE.out,List.drop_eq_nil_of_le (show x.reverse.length≤j by rw[List.length_reverse,←hl.out];omega)]
     cases hd:y.reverse.drop j with
     |nil=>have:=congrArg List.length hd;rw[List.length_drop,List.length_reverse,←kl.out] at this;simp at this;omega
     |cons a t=>rfl
    go_wp2
    go_ret
    exact⟨by rw[HN.out];rfl,hx.out⟩
   ·obtain rfl:j=m:=by omega
    have t3:¬(j:Int)<(j:Int):=by omega
    have HN:Hid (cmpL x.reverse y.reverse=0):=by
     show _=_
     rw[HE.out,List.drop_eq_nil_of_le (show x.reverse.length≤j by rw[List.length_reverse,←hl.out];omega),List.drop_eq_nil_of_le (show y.reverse.length≤j by rw[List.length_reverse,←kl.out];omega)]
     rfl
    go_wp2
    go_ret
    exact⟨by rw[HN.out];rfl,hx.out⟩
end Go.Proofs.YtkjbokhnpphimaaGreatDoor
