/- Lemmas of the walk. -/
import Derived.Test.YtkjbokhnpphimaaGreatDoorV04
import Derived.Lib.ConvBytes
import Derived.Test.YtkjbokhnpphimaaGreatDoorV02
set_option maxHeartbeats 40000000
set_option linter.unusedVariables false
set_option linter.unusedSimpArgs false
namespace Go.Proofs.YtkjbokhnpphimaaGreatDoor
section
open Go.RowKit
abbrev bys(s:ByteArray):List UInt8:=s.data.toList
theorem zaj(s:ByteArray):(bys s).length=s.size:=by obtain⟨⟨l⟩⟩:=s;rfl
theorem zb3{s:ByteArray}(h:s.size=0):s=ByteArray.empty:=by
 obtain⟨⟨l⟩⟩:=s
 cases l
 ·rfl
 ·simp[ByteArray.size] at h
theorem zdf{s:ByteArray}(h:s.size=0):s.toList=[]:=by
 rw[zb3 h,ByteArray.toList_eq];rfl
theorem zsH{s:ByteArray}(h:¬s.size=0):¬s.toList=[]:=by
 intro e
 rw[ByteArray.toList_eq] at e
 apply h
 obtain⟨⟨l⟩⟩:=s
 simp at e
 subst e
 rfl
theorem zfj{s:ByteArray}(h:¬s.size=0):s.toList.isEmpty=false:=by rw[List.isEmpty_eq_false_iff];exact zsH h
section
variable {w:World}{ops:Array Oper}{rest:List Oper}{o:Oper}{a:Act}{Q:Exit→Act→World→Prop}{K:Act→World→Prop}
end
end
section
open Go.RowKit
set_option maxRecDepth 100000
abbrev str(xs:List UInt8):ByteArray:=⟨xs.toArray⟩
theorem zao(xs:List UInt8):bys (str xs)=xs:=by simp[bys]
theorem zaK(s:ByteArray):str (bys s)=s:=by obtain⟨⟨l⟩⟩:=s;rfl
theorem zaI(xs:List UInt8):(str xs).size=xs.length:=rfl
structure Buf(w w':World)(g c:Nat)(xs:List UInt8):Prop where
 new:w.heap.size≤g
 cells:∀j (_:j<xs.length),w'.cell? ⟨g,j,none⟩=some (.int .u8 (((xs[j]?).getD 0).toNat:Int))
 thaw:∀j (_:j<xs.length),w'.frozen? ⟨g,j,none⟩=false
 ext:Ext w w'
 cap:xs.length≤c
 most:c≤maxLen
theorem Buf.sl{w w':World}{g c:Nat}{xs:List UInt8}(h:Buf w w' g c xs):Sl w' (some ⟨g,0,none⟩) xs.length c xs:=by
 refine⟨rfl,h.cap,h.most,.inr ⟨g,0,rfl,fun j u hj=>?_⟩⟩
 have hl:j<xs.length:=by have:=(List.getElem?_eq_some_iff.1 hj).1;simpa using this
 rw[Nat.zero_add,h.cells j hl]
 rw[List.getElem?_map,List.getElem?_eq_getElem hl] at hj
 rw[List.getElem?_eq_getElem hl]
 simpa[bv] using hj
theorem Buf.set{w w':World}{g c:Nat}{xs:List UInt8}(h:Buf w w' g c xs)(k:Nat)(b:UInt8)(hk:k<xs.length):Buf w (w'.setCell ⟨g,k,none⟩ (.int .u8 (b.toNat:Int))) g c (xs.set k b):=by
 refine⟨h.new,fun j hj=>?_,fun j hj=>?_,?_,by simpa using h.cap,h.most⟩
 ·rw[List.length_set] at hj
  by_cases e:k=j
  ·subst e
   rw[World.cell?_setCell_same w' _ _ (h.cells k hk),List.getElem?_set_self hk]
   rfl
  ·rw[World.cell?_setCell_other w' _ _ _ (by intro h;injection h;omega),List.getElem?_set_ne e]
   exact h.cells j hj
 ·rw[List.length_set] at hj
  rw[World.frozen?_setCell]
  exact h.thaw j hj
 ·refine⟨h.ext.os,h.ext.tape,h.ext.output,by simpa using h.ext.size,fun k hk=>?_⟩
  rw[heap_setCell_other _ _ _ _ (by have:=h.new;simp;omega)]
  exact h.ext.block k hk
theorem zst(w:World)(e:TypeId)(s:ByteArray)(hm:s.size≤maxLen):Buf w (Lib.bytesWorld w e s) w.heap.size (grownCap w s.size 0 e) (bys s):=by
 refine⟨Nat.le_refl _,fun j hj=>?_,fun j hj=>?_,?_,by rw[zaj];exact grownCap_ge w s.size 0 e,grownCap_le_maxLen w s.size 0 e hm⟩
 ·rw[zaj] at hj
  rw[Lib.bytesWorld_cell w e s j hj,List.getD_eq_getElem?_getD]
 ·rw[zaj] at hj
  have:s.size≤(Lib.bytesCells w e s).size:=by unfold Lib.bytesCells;rw[Array.size_append,Array.size_map];show s.size≤s.size+_;omega
  simp[World.frozen?,Lib.bytesWorld_at_new]
  omega
 ·refine⟨?_,?_,?_,by rw[Lib.bytesWorld_size];omega,fun k hk=>Lib.bytesWorld_at_old w e s k hk⟩
  all_goals
   simp only[Lib.bytesWorld,World.freeze,World.alloc,World.drew]
   split<;>rfl
section
variable {w:World}{ops:Array Oper}{rest:List Oper}{o:Oper}{a:Act}{Q:Exit→Act→World→Prop}{K:Act→World→Prop}
theorem zrh(x:Operand)(ho:o.op=.convert 9 174 x)(s:ByteArray)(hx:a.eval x=.string s)(hm:s.size≤maxLen)
 (h:∀g c w',Buf w w' g c (bys s)→K (a.put o.dst (.slice (some ⟨g,0,none⟩) s.size c)) w'):o.wp Tryz.prog a w K Q:=by
 have hr:=Lib.run_convert_string_bytes (P:=Tryz.prog) w _ _ _ s Tryz.underlying9 Tryz.underlying174 Tryz.underlying5
 unfold Oper.wp execOp
 simp only[ho,hx,Sem.run_bind,hr,Result.andThen_ok,Sem.run_pure]
 exact h _ _ _ (zst w _ s hm)
theorem zkz(hgd:o.guard=none)(x:Operand)(ho:o.op=.convert 9 174 x)(s:ByteArray)(hx:a.eval x=.string s)(hm:s.size≤maxLen)
 (h:∀g c w',Buf w w' g c (bys s)→wpList Tryz.prog ops Q rest (a.put o.dst (.slice (some ⟨g,0,none⟩) s.size c)) w'):wpList Tryz.prog ops Q (o::rest) a w:=
 wpList_plain hgd fun _ hK=>zrh x ho s hx hm fun g c w' h1=>hK _ _ (h g c w' h1)
end
def mixL(k:Nat)(s:List UInt8):List UInt8:=(s.take k).map loB++s.drop k
theorem zbO(k:Nat)(s:List UInt8):(mixL k s).length=s.length:=by simp[mixL];omega
theorem zjS(s:List UInt8):mixL 0 s=s:=by simp[mixL]
theorem zqu(s:List UInt8):mixL s.length s=zas s:=by simp[mixL,zas]
theorem zjt(k:Nat)(s:List UInt8)(j:Nat)(h:k≤j)(hk:k≤s.length):(mixL k s)[j]?=s[j]?:=by
 unfold mixL
 rw[List.getElem?_append_right (by simp;omega)]
 simp
 congr 1
 omega
theorem zhK(k:Nat)(s:List UInt8)(h:k<s.length):(mixL k s).set k (loB (s[k]?.getD 0))=mixL (k+1) s:=by
 unfold mixL
 rw[List.set_append_right _ _ (by simp;omega)]
 have e:k-(List.map loB (List.take k s)).length=0:=by simp;omega
 rw[e,List.drop_eq_getElem_cons h,List.set_cons_zero,List.take_add_one,List.getElem?_eq_getElem h,List.map_append]
 simp
theorem zfr(k:Nat)(s:List UInt8)(h:k<s.length)(hl:loB (s[k]?.getD 0)=s[k]?.getD 0):mixL k s=mixL (k+1) s:=by
 rw[←zhK k s h,hl]
 apply List.ext_getElem?
 intro j
 by_cases e:k=j
 ·subst e
  rw[List.getElem?_set_self (by rw[zbO];exact h),zjt k s k (Nat.le_refl _) (by omega),List.getElem?_eq_getElem h]
  simp
 ·rw[List.getElem?_set_ne e]
theorem zs3{c:UInt8}(h:65≤(c.toNat:Int))(k:(c.toNat:Int)≤90):loB c=UInt8.ofNat (c.toNat+32):=by unfold loB;rw[if_pos (by omega)]
theorem zq1{c:UInt8}(h:¬(65≤(c.toNat:Int)∧(c.toNat:Int)≤90)):loB c=c:=by unfold loB;rw[if_neg (by omega)]
theorem zpo{c:UInt8}(h:65≤(c.toNat:Int))(k:(c.toNat:Int)≤90):bits BinOp.or IntKind.u8 (c.toNat:Int) 32=((loB c).toNat:Int):=by
 have hall:∀c:UInt8,65≤(c.toNat:Int)→(c.toNat:Int)≤90→bits BinOp.or IntKind.u8 (c.toNat:Int) 32=((loB c).toNat:Int):=by
  intro x
  obtain⟨n,rfl⟩:∃n:Fin 256,x=UInt8.ofFin n:=⟨x.toFin,rfl⟩
  revert n
  decide +kernel
 exact hall c h k
theorem zpG{c:UInt8}(h:65≤(c.toNat:Int))(k:(c.toNat:Int)≤90):(c.toNat:Int)+32=((loB c).toNat:Int):=by
 rw[zs3 h k,UInt8.toNat_ofNat']
 omega
theorem zh6{w wr:World}{g c k n:Nat}{s:ByteArray}(hk:k=s.size)(hn:n=s.size)(h:Buf w wr g c (mixL k (bys s))):Sl wr (some ⟨g,0,none⟩) n c (zas (bys s)):=by
 subst hk hn
 have h1:=h.sl
 rw[zbO,zaj] at h1
 rw[←zaj s,zqu] at h1
 exact h1
theorem zdo(s:ByteArray)(w:World)(hs:s.size≤maxLen):Calls Tryz.prog 121 #[.string s] w fun e w'=>e=.returned (.string (str (zas (bys s))))∧Ext w w':=by
 have Hs:=hid hs
 have hs63:s.size≤9223372036854775807:=by unfold maxLen at hs;omega
 clear hs
 go_enter Tryz.func121,Tryz.ntmps121
 go_wp2_with(refine zkz rfl (.tmp 6) rfl s rfl Hs.out ?_;intro g c w1 hb1;have HB1:=hid hb1;clear hb1)
 go_loopw [10] (fun i wr=>∃k:Nat,k≤s.size∧i=.int .i64 k∧Hid (Buf w wr g c (mixL k (bys s)))) (fun i _=>s.size-(intOf i).toNat)
 case atStart=>exact⟨0,by omega,rfl,by rw[zjS];exact HB1⟩
 case round=>
  obtain⟨k,hk,rfl,HB⟩:=hrel
  by_cases hlt:k<s.size
  ·obtain⟨x,hx⟩:∃x,x=((bys s)[k]?).getD 0:=⟨_,rfl⟩
   have e1:wr.cell? ⟨g,k,none⟩=some (.int .u8 (x.toNat:Int)):=by
    rw[HB.out.cells k (by rw[zbO,zaj];exact hlt),zjt k _ k (Nat.le_refl _) (by rw[zaj];exact hk),hx]
   have f1:wr.frozen? ⟨g,k,none⟩=false:=HB.out.thaw k (by rw[zbO,zaj];exact hlt)
   have hx1:(x.toNat:Int)<256:=by have:=x.toNat_lt;omega
   have HX:=hid hx
   clear hx
   by_cases h65:65≤(x.toNat:Int)
   ·by_cases h90:(x.toNat:Int)≤90
    ·have t1:=zpo h65 h90
     have t2:=zpG h65 h90
     have HS:Hid (Buf w (wr.setCell ⟨g,k,none⟩ (.int .u8 ((loB x).toNat:Int))) g c (mixL (k+1) (bys s))):=by
      have:=HB.out.set k (loB x) (by rw[zbO,zaj];exact hlt)
      rw[HX.out,zhK k _ (by rw[zaj];exact hlt)] at this
      rw[HX.out]
      exact this
     go_wp2
     refine⟨⟨k+1,by omega,by go_num,?_⟩,by simp[intOf];omega⟩
     exact HS
    ·have HS:Hid (Buf w wr g c (mixL (k+1) (bys s))):=by
      show Buf _ _ _ _ _
      rw[←zfr k _ (by rw[zaj];exact hlt) (by rw[←HX.out];exact zq1 (by omega))]
      exact HB.out
     go_wp2
     exact⟨⟨k+1,by omega,by go_num,HS⟩,by simp[intOf];omega⟩
   ·have HS:Hid (Buf w wr g c (mixL (k+1) (bys s))):=by
     show Buf _ _ _ _ _
     rw[←zfr k _ (by rw[zaj];exact hlt) (by rw[←HX.out];exact zq1 (by omega))]
     exact HB.out
    go_wp2
    exact⟨⟨k+1,by omega,by go_num,HS⟩,by simp[intOf];omega⟩
  ·obtain rfl:k=s.size:=by omega
   have hC:=(zh6 rfl rfl HB.out).conv wr (Ext.refl wr)
   go_wp2
   go_ret
   exact⟨rfl,HB.out.ext⟩
theorem zit(s:ByteArray)(w:World)(hs:s.size≤maxLen):Calls Tryz.prog 163 #[.string s] w fun e w'=>e=.returned (.string (str (zas (bys s))))∧Ext w w':=by
 have Hs:=hid hs
 have hs63:s.size≤9223372036854775807:=by unfold maxLen at hs;omega
 clear hs
 go_enter Tryz.func163,Tryz.ntmps163
 go_wp2_with(refine zkz rfl (.tmp 5) rfl s rfl Hs.out ?_;intro g c w1 hb1;have HB1:=hid hb1;clear hb1)
 go_loopw [9] (fun i wr=>∃k:Nat,k≤s.size∧i=.int .i64 k∧Hid (Buf w wr g c (mixL k (bys s)))) (fun i _=>s.size-(intOf i).toNat)
 case atStart=>exact⟨0,by omega,rfl,by rw[zjS];exact HB1⟩
 case round=>
  obtain⟨k,hk,rfl,HB⟩:=hrel
  by_cases hlt:k<s.size
  ·obtain⟨x,hx⟩:∃x,x=((bys s)[k]?).getD 0:=⟨_,rfl⟩
   have e1:wr.cell? ⟨g,k,none⟩=some (.int .u8 (x.toNat:Int)):=by
    rw[HB.out.cells k (by rw[zbO,zaj];exact hlt),zjt k _ k (Nat.le_refl _) (by rw[zaj];exact hk),hx]
   have f1:wr.frozen? ⟨g,k,none⟩=false:=HB.out.thaw k (by rw[zbO,zaj];exact hlt)
   have hx1:(x.toNat:Int)<256:=by have:=x.toNat_lt;omega
   have HX:=hid hx
   clear hx
   by_cases h65:65≤(x.toNat:Int)
   ·by_cases h90:(x.toNat:Int)≤90
    ·have t1:=zpo h65 h90
     have t2:=zpG h65 h90
     have HS:Hid (Buf w (wr.setCell ⟨g,k,none⟩ (.int .u8 ((loB x).toNat:Int))) g c (mixL (k+1) (bys s))):=by
      have:=HB.out.set k (loB x) (by rw[zbO,zaj];exact hlt)
      rw[HX.out,zhK k _ (by rw[zaj];exact hlt)] at this
      rw[HX.out]
      exact this
     go_wp2
     refine⟨⟨k+1,by omega,by go_num,?_⟩,by simp[intOf];omega⟩
     exact HS
    ·have HS:Hid (Buf w wr g c (mixL (k+1) (bys s))):=by
      show Buf _ _ _ _ _
      rw[←zfr k _ (by rw[zaj];exact hlt) (by rw[←HX.out];exact zq1 (by omega))]
      exact HB.out
     go_wp2
     exact⟨⟨k+1,by omega,by go_num,HS⟩,by simp[intOf];omega⟩
   ·have HS:Hid (Buf w wr g c (mixL (k+1) (bys s))):=by
     show Buf _ _ _ _ _
     rw[←zfr k _ (by rw[zaj];exact hlt) (by rw[←HX.out];exact zq1 (by omega))]
     exact HB.out
    go_wp2
    exact⟨⟨k+1,by omega,by go_num,HS⟩,by simp[intOf];omega⟩
  ·obtain rfl:k=s.size:=by omega
   have hC:=(zh6 rfl rfl HB.out).conv wr (Ext.refl wr)
   go_wp2
   go_ret
   exact⟨rfl,HB.out.ext⟩
end
end Go.Proofs.YtkjbokhnpphimaaGreatDoor
