/- Lemmas of the walk. -/
import Derived.Test.YtioglicfndkgiaaGreatDoorZ30
import Derived.Test.YtioglicfndkgiaaGreatDoorZ23
import Derived.Test.YtioglicfndkgiaaGreatDoorZ24
import Derived.Laws.OwnMore
import Derived.Laws.Cover1
import Derived.BigQuiet
import Derived.Deep.QuietTactic
set_option maxHeartbeats 40000000
set_option linter.unusedVariables false
set_option linter.unusedSimpArgs false
namespace Go.Proofs.YtioglicfndkgiaaGreatDoor
open Go.RowKit
set_option maxRecDepth 100000
def swq {α:Type} (d:α) (xs:List α) (k:Nat):List α:=(List.range xs.length).map fun j=>if j<k∨xs.length-k≤j then xs[xs.length-1-j]?.getD d else xs[j]?.getD d
section
variable {α:Type} (d:α)
theorem zcO (xs:List α) (k:Nat):(swq d xs k).length=xs.length:=by simp [swq]
theorem zgg (xs:List α) (k j:Nat) (h:j<xs.length):(swq d xs k)[j]?=some (if j<k∨xs.length-k≤j then xs[xs.length-1-j]?.getD d else xs[j]?.getD d):=by
 simp [swq,h]
theorem zqG (xs:List α):swq d xs 0=xs:=by
 apply List.ext_getElem?
 intro j
 by_cases h:j<xs.length
 ·rw [zgg _ _ _ _ h,if_neg (by omega)];simp [h]
 ·rw [List.getElem?_eq_none (by rw [zcO];omega),List.getElem?_eq_none (by omega)]
theorem zsp (xs:List α) (k:Nat) (h:xs.length≤2 * k+1):swq d xs k=xs.reverse:=by
 apply List.ext_getElem?
 intro j
 by_cases hj:j<xs.length
 ·rw [zgg _ _ _ _ hj,List.getElem?_reverse hj]
  have h1:xs.length-1-j<xs.length:=by omega
  by_cases hc:j<k∨xs.length-k≤j
  ·rw [if_pos hc];simp [h1]
  ·rw [if_neg hc,show xs.length-1-j=j by omega];simp [hj]
 ·rw [List.getElem?_eq_none (by rw [zcO];omega),List.getElem?_eq_none (by simp;omega)]
theorem zrt (xs:List α) (k:Nat) (h:2 * k+1<xs.length) :
 ((swq d xs k).set k (xs[xs.length-1-k]?.getD d)).set (xs.length-1-k) (xs[k]?.getD d)=swq d xs (k+1):=by
 apply List.ext_getElem?
 intro j
 by_cases hj:j<xs.length
 ·rw [zgg _ _ _ _ hj]
  by_cases h1:j=xs.length-1-k
  ·subst h1
   rw [List.getElem?_set_self (by simp [zcO];omega),if_pos (by omega)]
   congr 3;omega
  ·rw [List.getElem?_set_ne (by omega)]
   by_cases h2:j=k
   ·subst h2
    rw [List.getElem?_set_self (by simp [zcO];omega),if_pos (by omega)]
   ·rw [List.getElem?_set_ne (by omega),zgg _ _ _ _ hj]
    by_cases h3:j<k∨xs.length-k≤j
    ·rw [if_pos h3,if_pos (by omega)]
    ·rw [if_neg h3,if_neg (by omega)]
 ·rw [List.getElem?_eq_none (by simp [zcO];omega),List.getElem?_eq_none (by rw [zcO];omega)]
end
theorem zku (base:Nat) (v:Value) (n:Nat) (xs:List ByteArray) (w:World) (hown:w.ownsRow base 9 1 v n (xs.map .string)) :
 Calls Tryz.prog 71 #[v] w fun e w'=>e=.returned (.tuple #[])∧w'.ownsRow base 9 1 v n (xs.reverse.map .string)∧w.grownBy w' v.ownBlock:=by
 have hn:Hid (n=xs.length):=by simpa [Hid] using hown.1.symm
 rcases hown.2 with ⟨rfl,rfl⟩ | ⟨g,cap,cur,rfl,hbg,hg,hnc,hcm,hcs,htake⟩
 ·have hx:xs=[]:=List.eq_nil_of_length_eq_zero hn.out.symm
  subst hx
  clear hn
  go_enter Tryz.func71,Tryz.ntmps71
  go_wp2
  refine wp_loop_once ?_
  go_wp2
  go_end0
  exact ⟨rfl,World.ownsRow_nil _ _ _ _,World.grownBy.refl w _⟩
 ·have hcl:n≤9223372036854775807:=by simp only [maxLen] at hcm;omega
  clear hg htake hcs hcm
  go_enter Tryz.func71,Tryz.ntmps71
  go_wp2
  go_loopw [2,3] (fun i j wr=>∃ k:Nat,2 * k≤n∧i=.int .i64 k∧j=.int .i64 ((n:Int)-1-k)∧wr.ownsRow base 9 1 (.slice (some ⟨g,0,none⟩) n cap) n ((swq ByteArray.empty xs k).map .string)∧w.grownBy wr (some g)) (fun i _ _=>n-2 * (intOf i).toNat)
  case atStart=>exact ⟨0,by omega,rfl,by simp,by rw [zqG];exact hown,World.grownBy.refl w _⟩
  case round=>
   obtain ⟨k,hk,rfl,rfl,ho,hgr⟩:=hrel
   by_cases hlt:2 * k+1<n
   ·have c1:wr.cell? ⟨g,k,none⟩=some (.string (xs[k]?.getD ByteArray.empty)):=by
     rw [ho.cellAt k (by omega),List.getElem?_map,zgg _ _ _ _ (by have:=hn.out;omega),if_neg (by have:=hn.out;omega)];rfl
    have c2:wr.cell? ⟨g,n-1-k,none⟩=some (.string (xs[n-1-k]?.getD ByteArray.empty)):=by
     rw [ho.cellAt _ (by omega),List.getElem?_map,zgg _ _ _ _ (by have:=hn.out;omega),if_neg (by have:=hn.out;omega)];rfl
    have f1:=ho.frozenAt k
    have f2:=ho.frozenAt (n-1-k)
    go_wp2
    go_region
    go_wp2
    go_roundw
    case rel=>
     have s1:=(ho.stored k (.string (xs[n-1-k]?.getD ByteArray.empty)))
     have s2:=s1.1.stored (n-1-k) (.string (xs[k]?.getD ByteArray.empty))
     refine ⟨k+1,by omega,by go_num,by go_num,?_,⟨(hgr.trans (s1.2.trans s2.2)).os,(hgr.trans (s1.2.trans s2.2)).tape,(hgr.trans (s1.2.trans s2.2)).output,(hgr.trans (s1.2.trans s2.2)).size,(hgr.trans (s1.2.trans s2.2)).block⟩⟩
     have:=s2.1
     rw [← List.map_set,← List.map_set,hn.out,zrt _ xs k (by have:=hn.out;omega),← hn.out] at this
     exact this
    case measure=>simp [intOf];omega
   ·go_wp2
    go_end0
    refine ⟨rfl,?_,hgr⟩
    rw [← zsp ByteArray.empty xs k (by have:=hn.out;omega)]
    exact ho
theorem GrowS.reversed {w wr:World} {v:Value} {l:List ByteArray} (h:GrowS w wr v l) :
 Calls Tryz.prog 71 #[v] wr fun e w'=>e=.returned (.tuple #[])∧GrowS w w' v l.reverse∧wr.grownBy w' v.ownBlock:=
 (zku _ v _ l wr h.own).mono fun e w' ⟨h1,h2,h3⟩=>⟨h1,⟨by rw [List.length_reverse];exact h2,Below.trans h.ext (zbY h.own h3 (zaD h.ext) (Nat.le_refl _))⟩,h3⟩
theorem zns (a b:ByteArray) (w:World):Calls Tryz.prog 101 #[.string a,.string b] w fun e w'=>e=.returned (.int .i64 (Lib.compareBytes (bys a) (bys b)))∧Ext w w':=by
 have hN:∀ (s:ByteArray) w,Calls Tryz.prog 131 #[.string s] w fun e w'=>e=.returned (.bool false)∧Ext w w':=by
  intro s w
  have e0:(s.toList==s.toList)=true:=beq_self_eq_true _
  go_enter Tryz.func131,Tryz.ntmps131
  go_wp2
  go_ret
  exact ⟨rfl,Ext.refl _⟩
 rcases zoZ (bys a) (bys b) with ⟨h1,h2⟩ | ⟨h1,h2⟩ | ⟨h1,h2⟩
 ·rw [h1]
  have l1:=geqB h2
  clear h1 h2
  go_enter Tryz.func101,Tryz.ntmps101
  go_wp2_with (go_at_call 131;first
   | ((with_reducible refine (hN a _).mono ?_);rintro e w1 ⟨rfl,hx1⟩;have HX1:=hid hx1;clear hx1)
   | ((with_reducible refine (hN b _).mono ?_);rintro e w2 ⟨rfl,hx2⟩;have HX2:=hid (HX1.out.trans hx2);clear hx2))
  go_ret
  exact ⟨rfl,HX2.out⟩
 ·rw [h1]
  have l1:=geqB (r:=false) (show ltB (bys a) (bys b)=false by rw [h2];exact zbZ _)
  have l2:(a.toList==b.toList)=true:=zes (by rw [← zaN a,h2,zaN])
  clear h1 h2
  go_enter Tryz.func101,Tryz.ntmps101
  go_wp2_with (go_at_call 131;first
   | ((with_reducible refine (hN a _).mono ?_);rintro e w1 ⟨rfl,hx1⟩;have HX1:=hid hx1;clear hx1)
   | ((with_reducible refine (hN b _).mono ?_);rintro e w2 ⟨rfl,hx2⟩;have HX2:=hid (HX1.out.trans hx2);clear hx2))
  go_ret
  exact ⟨rfl,HX2.out⟩
 ·rw [h1]
  have l1:=geqB (r:=false) (zc2 _ _ h2)
  have l2:(a.toList==b.toList)=false:=zd9 (fun e=>by rw [e,zbZ] at h2;cases h2)
  clear h1 h2
  go_enter Tryz.func101,Tryz.ntmps101
  go_wp2_with (go_at_call 131;first
   | ((with_reducible refine (hN a _).mono ?_);rintro e w1 ⟨rfl,hx1⟩;have HX1:=hid hx1;clear hx1)
   | ((with_reducible refine (hN b _).mono ?_);rintro e w2 ⟨rfl,hx2⟩;have HX2:=hid (HX1.out.trans hx2);clear hx2))
  go_ret
  exact ⟨rfl,HX2.out⟩
theorem zsC (x y:List UInt8) (xs ys:List (List UInt8)):cmpL (x::xs) (y::ys)=if Lib.compareBytes x y=0 then cmpL xs ys else Lib.compareBytes x y:=by
 rw [show cmpL (x::xs) (y::ys)=(if ltB x y then -1 else if ltB y x then 1 else cmpL xs ys) from rfl]
 rcases zoZ x y with ⟨h1,h2⟩ | ⟨h1,h2⟩ | ⟨h1,h2⟩
 ·rw [h1,h2];simp
 ·rw [h1,h2,zbZ];simp
 ·rw [h1,h2,zc2 _ _ h2];simp
theorem zka {S T:Nat→Prop} {A B:Option Addr} {n c m d:Nat} {x y:List (List UInt8)} {w:World} (h:Row Elem.str S w A n c (strs x)) (k:Row Elem.str T w B m d (strs y)) :
 Calls Tryz.prog 72 #[.slice A n c,.slice B m d] w fun e w'=>e=.returned (.int .i64 (cmpL x y))∧Ext w w':=by
 have hl:Hid (n=x.length):=by show _=_;rw [h.len,List.length_map]
 have kl:Hid (m=y.length):=by show _=_;rw [k.len,List.length_map]
 have hnl:n≤9223372036854775807:=by have:=h.cap;have:=h.most;simp only [maxLen] at this;omega
 have hml:m≤9223372036854775807:=by have:=k.cap;have:=k.most;simp only [maxLen] at this;omega
 have HR:=hid h
 have KR:=hid k
 clear h k
 have HCM:∀ (a b:List UInt8) w,Calls Tryz.prog 101 #[.string (str a),.string (str b)] w fun e w'=>e=.returned (.int .i64 (Lib.compareBytes a b))∧Ext w w':=fun a b w=>by
  have:=zns (str a) (str b) w
  rwa [zao a,zao b] at this
 go_enter Tryz.func72,Tryz.ntmps72
 go_wp2
 go_loopw [11] (fun i wr=>∃ j:Nat,j≤n∧i=.int .i64 j∧Hid (j≤m∧cmpL x y=cmpL (x.drop j) (y.drop j))∧Hid (Ext w wr)) (fun i _=>n-(intOf i).toNat)
 case atStart=>exact ⟨0,by omega,rfl,⟨Nat.zero_le _,rfl⟩,Ext.refl w⟩
 case round=>
  obtain ⟨j,hj,rfl,HE,hx⟩:=hrel
  by_cases hlt:j<n
  ·obtain ⟨b1,o1,rfl,c1⟩:=(HR.out.ext hx.out).str_cell (by omega)
   have e1:=c1 j hlt
   obtain ⟨a,ha⟩:∃ a,x[j]?=some a:=⟨_,List.getElem?_eq_getElem (by rw [← hl.out];exact hlt)⟩
   rw [List.getElem?_map,ha] at e1
   simp only [Option.map_some,Option.getD_some] at e1
   have HDA:Hid (x.drop j=a::x.drop (j+1)):=by show _=_;rw [← List.getElem_cons_drop (h:=by rw [← hl.out];exact hlt)];rw [List.getElem?_eq_getElem (by rw [← hl.out];exact hlt)] at ha;injection ha with ha;rw [ha]
   clear c1 ha
   by_cases hm:j<m
   ·obtain ⟨b2,o2,rfl,c2⟩:=(KR.out.ext hx.out).str_cell (by omega)
    have e2:=c2 j hm
    obtain ⟨b,hb⟩:∃ b,y[j]?=some b:=⟨_,List.getElem?_eq_getElem (by rw [← kl.out];exact hm)⟩
    rw [List.getElem?_map,hb] at e2
    simp only [Option.map_some,Option.getD_some] at e2
    have HDB:Hid (y.drop j=b::y.drop (j+1)):=by show _=_;rw [← List.getElem_cons_drop (h:=by rw [← kl.out];exact hm)];rw [List.getElem?_eq_getElem (by rw [← kl.out];exact hm)] at hb;injection hb with hb;rw [hb]
    clear c2 hb
    have HN:Hid (cmpL x y=if Lib.compareBytes a b=0 then cmpL (x.drop (j+1)) (y.drop (j+1)) else Lib.compareBytes a b):=by show _=_;rw [HE.out.2,HDA.out,HDB.out,zsC]
    have hm':¬ (m:Int)≤(j:Int):=by omega
    have HCX:=HCM a b
    clear HCM HDA HDB
    generalize Lib.compareBytes a b=k at *
    by_cases hk:k=0
    ·rw [if_pos hk] at HN
     subst hk
     go_wp2_with (go_at_call 101;(with_reducible refine (HCX _).mono ?_);rintro e w1 ⟨rfl,hx1⟩;have HX1:=hid (hx.out.trans hx1);clear hx1)
     exact ⟨⟨j+1,by omega,by go_num,⟨by omega,HN.out⟩,HX1.out⟩,by simp [intOf];omega⟩
    ·rw [if_neg hk] at HN
     have hk':(k != 0)=true:=by rw [bne_iff_ne];exact hk
     go_wp2_with (go_at_call 101;(with_reducible refine (HCX _).mono ?_);rintro e w1 ⟨rfl,hx1⟩;have HX1:=hid (hx.out.trans hx1);clear hx1)
     go_ret
     exact ⟨by rw [HN.out];rfl,HX1.out⟩
   ·have hm':(m:Int)≤(j:Int):=by omega
    have HN:Hid (cmpL x y=1):=by
     show _=_
     rw [HE.out.2,HDA.out,List.drop_eq_nil_of_le (show y.length≤j by rw [← kl.out];omega)]
     rfl
    clear HCM HDA
    go_wp2
    go_ret
    exact ⟨by rw [HN.out];rfl,hx.out⟩
  ·obtain rfl:j=n:=by omega
   clear HCM
   by_cases hm:j<m
   ·have hm':(j:Int)<(m:Int):=by omega
    have HN:Hid (cmpL x y = -1):=by
     show _=_
     rw [HE.out.2,List.drop_eq_nil_of_le (show x.length≤j by rw [← hl.out];exact Nat.le_refl _)]
     cases hd:y.drop j with
     | nil=>have:=congrArg List.length hd;rw [List.length_drop,← kl.out] at this;simp at this;omega
     | cons a t=>rfl
    go_wp2
    go_ret
    exact ⟨by rw [HN.out];rfl,hx.out⟩
   ·have hm':¬ (j:Int)<(m:Int):=by omega
    have HN:Hid (cmpL x y=0):=by
     show _=_
     rw [HE.out.2,List.drop_eq_nil_of_le (show x.length≤j by rw [← hl.out];exact Nat.le_refl _),List.drop_eq_nil_of_le (show y.length≤j by rw [← kl.out];omega)]
     rfl
    go_wp2
    go_ret
    exact ⟨by rw [HN.out];rfl,hx.out⟩
theorem GrowS.apart {w w1 w2:World} {v1 v2:Value} {l1 l2:List ByteArray} (h1:GrowS w w1 v1 l1) (h2:GrowS w1 w2 v2 l2):(v2.ownBlock=none∨v2.ownBlock≠v1.ownBlock)∧(v1.ownBlock=none∨v1.ownBlock≠v2.ownBlock):=by
 have key:∀ k,v2.ownBlock=some k→v1.ownBlock=some k→False:=fun k e2 e1=>by
  have q2:=(h2.own.lt k e2).1
  have q1:=(h1.own.lt k e1).2
  omega
 constructor
 ·cases hv:v2.ownBlock with
  | none=>exact .inl rfl
  | some k=>exact .inr fun e=>key k hv e.symm
 ·cases hv:v1.ownBlock with
  | none=>exact .inl rfl
  | some k=>exact .inr fun e=>key k e.symm hv
theorem GrowS.rev1 {w w1 w2 w3:World} {v1 v2:Value} {l1 l2 r1:List ByteArray} (h1:GrowS w w1 v1 l1) (h2:GrowS w1 w2 v2 l2) (h3:GrowS w w3 v1 r1) (g3:w2.grownBy w3 v1.ownBlock):GrowS w w3 v2 l2:=
 ⟨zf1 (h2.own.kept g3 (h1.apart h2).1) (zaD h1.ext),h3.ext⟩
theorem GrowS.rev2 {w w1 w2 w3 w4:World} {v1 v2:Value} {l1 l2 r1 r2:List ByteArray} (h1:GrowS w w1 v1 l1) (h2:GrowS w1 w2 v2 l2) (h3:GrowS w w3 v1 r1) (h4:GrowS w w4 v2 r2) (g4:w3.grownBy w4 v2.ownBlock):GrowS w w4 v1 r1:=
 ⟨h3.own.kept g4 (h1.apart h2).2,h4.ext⟩
theorem GrowS.rowN {w wr:World} {v:Value} {l:List ByteArray} (h:GrowS w wr v l):∃ A n c,v=.slice A n c∧Row Elem.str (fun b=>w.heap.size≤b) wr A n c l:=by
 obtain ⟨A,c,h1,h2⟩:=h.row
 exact ⟨A,_,c,h1,h2⟩
theorem zqo (l:List (List UInt8)):(strs l).reverse=strs l.reverse:=(List.map_reverse).symm
theorem zdW (a b:ByteArray) (w:World) (hG:Gl w):Calls Tryz.prog 48 #[.string a,.string b] w fun e w'=>e=.returned (.int .i64 (zbj (bys a) (bys b)))∧Ext w w':=by
 have HG:=hid hG
 have HPA:∀ w,Gl w→Calls Tryz.prog 50 #[.string a] w (TextsOwn w (bys a)):=fun w hG=>zhu a w hG
 have HPB:∀ w,Gl w→Calls Tryz.prog 50 #[.string b] w (TextsOwn w (bys b)):=fun w hG=>zhu b w hG
 unfold TextsOwn at HPA HPB
 have HUD:Hid (zbj (bys a) (bys b)=if zap (zac (bys a))=0∧zap (zac (bys b))=0 then cmpL (okL (zac (bys a))).reverse (okL (zac (bys b))).reverse else 0):=rfl
 clear hG
 generalize zac (bys a)=pa at *
 generalize zac (bys b)=pb at *
 generalize zbj (bys a) (bys b)=u at *
 generalize okL pa=la at *
 generalize okL pb=lb at *
 generalize zap pa=ca at *
 generalize zap pb=cb at *
 by_cases h1:ca=0
 ·have t1:(ca != 0)=false:=by rw [bne_eq_false_iff_eq];exact h1
  by_cases h2:cb=0
  ·have t2:(cb != 0)=false:=by rw [bne_eq_false_iff_eq];exact h2
   rw [if_pos ⟨h1,h2⟩] at HUD
   clear h1 h2
   have HRA:∀ (w':World) v l,GrowS w w' v (strs l)→Calls Tryz.prog 71 #[v] w' fun e w''=>e=.returned (.tuple #[])∧GrowS w w'' v (strs l.reverse)∧w'.grownBy w'' v.ownBlock:=fun w' v l h=>by have:=h.reversed;rwa [zqo] at this
   have HSC:∀ (S T:Nat→Prop) A n c B m d w',Row Elem.str S w' A n c (strs la.reverse)→Row Elem.str T w' B m d (strs lb.reverse)→Calls Tryz.prog 72 #[.slice A n c,.slice B m d] w' fun e w''=>e=.returned (.int .i64 (cmpL la.reverse lb.reverse))∧Ext w' w'':=fun S T A n c B m d w' h k=>zka h k
   go_enter Tryz.func48,Tryz.ntmps48
   go_wp2_with (first
    | (go_at_call 50;first
     | ((with_reducible refine (HPA _ HG.out).mono ?_);rintro e w1 ⟨v1,rfl,hr1⟩;have HR1:=hid hr1;clear hr1)
     | ((with_reducible refine (HPB _ (HG.out.ext HR1.out.ext)).mono ?_);rintro e w2 ⟨v2,rfl,hr2⟩;have HR2:=hid hr2;clear hr2))
    | (go_at_call 71;first
     | ((with_reducible refine (HRA _ _ _ (HR1.out.later HR2.out.ext)).mono ?_);rintro e w3 ⟨rfl,hr3,hg3⟩;have HR3:=hid hr3;have HR4:=hid (HR1.out.rev1 HR2.out hr3 hg3);clear hr3 hg3)
     | ((with_reducible refine (HRA _ _ _ HR4.out).mono ?_);rintro e w4 ⟨rfl,hr4,hg4⟩;have HR5:=hid (HR1.out.rev2 HR2.out HR3.out hr4 hg4);have HR6:=hid hr4;clear hr4 hg4;obtain ⟨A5,n5,c5,rfl,hq5⟩:=HR5.out.rowN;obtain ⟨A6,n6,c6,rfl,hq6⟩:=HR6.out.rowN;have HQ5:=hid hq5;have HQ6:=hid hq6;clear hq5 hq6))
    | (go_at_call 72;(with_reducible refine (HSC _ _ _ _ _ _ _ _ _ HQ5.out HQ6.out).mono ?_);rintro e w5 ⟨rfl,hx5⟩;have HX5:=hid (HR5.out.ext.trans hx5);clear hx5))
   go_ret
   exact ⟨by rw [HUD.out];rfl,HX5.out⟩
  ·have t2:(cb != 0)=true:=by rw [bne_iff_ne];exact h2
   rw [if_neg (fun h=>h2 h.2)] at HUD
   clear h1 h2
   go_enter Tryz.func48,Tryz.ntmps48
   go_wp2_with (go_at_call 50;first
    | ((with_reducible refine (HPA _ HG.out).mono ?_);rintro e w1 ⟨v1,rfl,hr1⟩;have HR1:=hid hr1;clear hr1)
    | ((with_reducible refine (HPB _ (HG.out.ext HR1.out.ext)).mono ?_);rintro e w2 ⟨v2,rfl,hr2⟩;have HR2:=hid hr2;clear hr2))
   go_ret
   exact ⟨by rw [HUD.out];rfl,HR1.out.ext.trans HR2.out.ext⟩
 ·have t1:(ca != 0)=true:=by rw [bne_iff_ne];exact h1
  rw [if_neg (fun h=>h1 h.1)] at HUD
  clear h1
  go_enter Tryz.func48,Tryz.ntmps48
  go_wp2_with (go_at_call 50;first
   | ((with_reducible refine (HPA _ HG.out).mono ?_);rintro e w1 ⟨v1,rfl,hr1⟩;have HR1:=hid hr1;clear hr1)
   | ((with_reducible refine (HPB _ (HG.out.ext HR1.out.ext)).mono ?_);rintro e w2 ⟨v2,rfl,hr2⟩;have HR2:=hid hr2;clear hr2))
  go_ret
  exact ⟨by rw [HUD.out];rfl,HR1.out.ext.trans HR2.out.ext⟩
end Go.Proofs.YtioglicfndkgiaaGreatDoor
