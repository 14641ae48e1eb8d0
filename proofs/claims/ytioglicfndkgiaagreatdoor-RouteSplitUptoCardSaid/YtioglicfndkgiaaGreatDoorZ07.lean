/- Lemmas of the walk. -/
import Derived.Test.YtioglicfndkgiaaGreatDoorZ04
import Derived.Lib.ConvBytes
import Derived.Test.YtioglicfndkgiaaGreatDoorZ03
import Derived.Test.YtioglicfndkgiaaGreatDoorZ06
import Derived.WalkSmall
import Derived.Lib.LaidTab
import Derived.Lib.ItoaNum
set_option maxHeartbeats 40000000
set_option linter.unusedVariables false
set_option linter.unusedSimpArgs false
namespace Go.Proofs.YtioglicfndkgiaaGreatDoor
open Go.RowKit
abbrev bys (s:ByteArray):List UInt8:=s.data.toList
theorem zaf (s:ByteArray):(bys s).length=s.size:=by obtain ⟨⟨l⟩⟩:=s;rfl
theorem zbt {s:ByteArray} (h:s.size=0):s=ByteArray.empty:=by
 obtain ⟨⟨l⟩⟩:=s
 cases l
 ·rfl
 ·simp [ByteArray.size] at h
theorem zcf {s:ByteArray} (h:s.size=0):s.toList=[]:=by
 rw [zbt h,ByteArray.toList_eq];rfl
theorem zsG {s:ByteArray} (h:¬ s.size=0):¬ s.toList=[]:=by
 intro e
 rw [ByteArray.toList_eq] at e
 apply h
 obtain ⟨⟨l⟩⟩:=s
 simp at e
 subst e
 rfl
theorem zdn {s:ByteArray} (h:¬ s.size=0):s.toList.isEmpty=false:=by rw [List.isEmpty_eq_false_iff];exact zsG h
section
variable {w:World} {ops:Array Oper} {rest:List Oper} {o:Oper} {a:Act} {Q:Exit→Act→World→Prop} {K:Act→World→Prop}
end
end Go.Proofs.YtioglicfndkgiaaGreatDoor
namespace Go.Proofs.YtioglicfndkgiaaGreatDoor
open Go.RowKit
set_option maxRecDepth 100000
abbrev str (xs:List UInt8):ByteArray:=⟨xs.toArray⟩
theorem zao (xs:List UInt8):bys (str xs)=xs:=by simp [bys]
theorem zaN (s:ByteArray):str (bys s)=s:=by obtain ⟨⟨l⟩⟩:=s;rfl
theorem zaL (xs:List UInt8):(str xs).size=xs.length:=rfl
structure Buf (w w':World) (g c:Nat) (xs:List UInt8):Prop where
 new:w.heap.size≤g
 cells:∀ j (_:j<xs.length),w'.cell? ⟨g,j,none⟩=some (.int .u8 (((xs[j]?).getD 0).toNat:Int))
 thaw:∀ j (_:j<xs.length),w'.frozen? ⟨g,j,none⟩=false
 ext:Ext w w'
 cap:xs.length≤c
 most:c≤maxLen
theorem Buf.sl {w w':World} {g c:Nat} {xs:List UInt8} (h:Buf w w' g c xs):Sl w' (some ⟨g,0,none⟩) xs.length c xs:=by
 refine ⟨rfl,h.cap,h.most,.inr ⟨g,0,rfl,fun j u hj=>?_⟩⟩
 have hl:j<xs.length:=by have:=(List.getElem?_eq_some_iff.1 hj).1;simpa using this
 rw [Nat.zero_add,h.cells j hl]
 rw [List.getElem?_map,List.getElem?_eq_getElem hl] at hj
 rw [List.getElem?_eq_getElem hl]
 simpa [bv] using hj
theorem Buf.set {w w':World} {g c:Nat} {xs:List UInt8} (h:Buf w w' g c xs) (k:Nat) (b:UInt8) (hk:k<xs.length):Buf w (w'.setCell ⟨g,k,none⟩ (.int .u8 (b.toNat:Int))) g c (xs.set k b):=by
 refine ⟨h.new,fun j hj=>?_,fun j hj=>?_,?_,by simpa using h.cap,h.most⟩
 ·rw [List.length_set] at hj
  by_cases e:k=j
  ·subst e
   rw [World.cell?_setCell_same w' _ _ (h.cells k hk),List.getElem?_set_self hk]
   rfl
  ·rw [World.cell?_setCell_other w' _ _ _ (by intro h;injection h;omega),List.getElem?_set_ne e]
   exact h.cells j hj
 ·rw [List.length_set] at hj
  rw [World.frozen?_setCell]
  exact h.thaw j hj
 ·refine ⟨h.ext.os,h.ext.tape,h.ext.output,by simpa using h.ext.size,fun k hk=>?_⟩
  rw [heap_setCell_other _ _ _ _ (by have:=h.new;simp;omega)]
  exact h.ext.block k hk
theorem zr6 (w:World) (e:TypeId) (s:ByteArray) (hm:s.size≤maxLen):Buf w (Lib.bytesWorld w e s) w.heap.size (grownCap w s.size 0 e) (bys s):=by
 refine ⟨Nat.le_refl _,fun j hj=>?_,fun j hj=>?_,?_,by rw [zaf];exact grownCap_ge w s.size 0 e,grownCap_le_maxLen w s.size 0 e hm⟩
 ·rw [zaf] at hj
  rw [Lib.bytesWorld_cell w e s j hj,List.getD_eq_getElem?_getD]
 ·rw [zaf] at hj
  have:s.size≤(Lib.bytesCells w e s).size:=by unfold Lib.bytesCells;rw [Array.size_append,Array.size_map];show s.size≤s.size+_;omega
  simp [World.frozen?,Lib.bytesWorld_at_new]
  omega
 ·refine ⟨?_,?_,?_,by rw [Lib.bytesWorld_size];omega,fun k hk=>Lib.bytesWorld_at_old w e s k hk⟩
  all_goals
   simp only [Lib.bytesWorld,World.freeze,World.alloc,World.drew]
   split <;> rfl
section
variable {w:World} {ops:Array Oper} {rest:List Oper} {o:Oper} {a:Act} {Q:Exit→Act→World→Prop} {K:Act→World→Prop}
theorem zqi (x:Operand) (ho:o.op=.convert 9 129 x) (s:ByteArray) (hx:a.eval x=.string s) (hm:s.size≤maxLen)
 (h:∀ g c w',Buf w w' g c (bys s)→K (a.put o.dst (.slice (some ⟨g,0,none⟩) s.size c)) w'):o.wp Tryz.prog a w K Q:=by
 have hr:=Lib.run_convert_string_bytes (P:=Tryz.prog) w _ _ _ s Tryz.underlying9 Tryz.underlying129 Tryz.underlying5
 unfold Oper.wp execOp
 simp only [ho,hx,Sem.run_bind,hr,Result.andThen_ok,Sem.run_pure]
 exact h _ _ _ (zr6 w _ s hm)
theorem zkZ (hgd:o.guard=none) (x:Operand) (ho:o.op=.convert 9 129 x) (s:ByteArray) (hx:a.eval x=.string s) (hm:s.size≤maxLen)
 (h:∀ g c w',Buf w w' g c (bys s)→wpList Tryz.prog ops Q rest (a.put o.dst (.slice (some ⟨g,0,none⟩) s.size c)) w'):wpList Tryz.prog ops Q (o::rest) a w:=
 wpList_plain hgd fun _ hK=>zqi x ho s hx hm fun g c w' h1=>hK _ _ (h g c w' h1)
end
def mixL (k:Nat) (s:List UInt8):List UInt8:=(s.take k).map loB++s.drop k
theorem zbS (k:Nat) (s:List UInt8):(mixL k s).length=s.length:=by simp [mixL];omega
theorem zk7 (s:List UInt8):mixL 0 s=s:=by simp [mixL]
theorem zqR (s:List UInt8):mixL s.length s=zat s:=by simp [mixL,zat]
theorem ziW (k:Nat) (s:List UInt8) (j:Nat) (h:k≤j) (hk:k≤s.length):(mixL k s)[j]?=s[j]?:=by
 unfold mixL
 rw [List.getElem?_append_right (by simp;omega)]
 simp
 congr 1
 omega
theorem zhS (k:Nat) (s:List UInt8) (h:k<s.length):(mixL k s).set k (loB (s[k]?.getD 0))=mixL (k+1) s:=by
 unfold mixL
 rw [List.set_append_right _ _ (by simp;omega)]
 have e:k-(List.map loB (List.take k s)).length=0:=by simp;omega
 rw [e,List.drop_eq_getElem_cons h,List.set_cons_zero,List.take_add_one,List.getElem?_eq_getElem h,List.map_append]
 simp
theorem zf0 (k:Nat) (s:List UInt8) (h:k<s.length) (hl:loB (s[k]?.getD 0)=s[k]?.getD 0):mixL k s=mixL (k+1) s:=by
 rw [← zhS k s h,hl]
 apply List.ext_getElem?
 intro j
 by_cases e:k=j
 ·subst e
  rw [List.getElem?_set_self (by rw [zbS];exact h),ziW k s k (Nat.le_refl _) (by omega),List.getElem?_eq_getElem h]
  simp
 ·rw [List.getElem?_set_ne e]
theorem zs6 {c:UInt8} (h:65≤(c.toNat:Int)) (k:(c.toNat:Int)≤90):loB c=UInt8.ofNat (c.toNat+32):=by unfold loB;rw [if_pos (by omega)]
theorem zrh {c:UInt8} (h:¬ (65≤(c.toNat:Int)∧(c.toNat:Int)≤90)):loB c=c:=by unfold loB;rw [if_neg (by omega)]
theorem zpJ {c:UInt8} (h:65≤(c.toNat:Int)) (k:(c.toNat:Int)≤90):bits BinOp.or IntKind.u8 (c.toNat:Int) 32=((loB c).toNat:Int):=by
 have hall:∀ c:UInt8,65≤(c.toNat:Int)→(c.toNat:Int)≤90→bits BinOp.or IntKind.u8 (c.toNat:Int) 32=((loB c).toNat:Int):=by
  intro x
  obtain ⟨n,rfl⟩:∃ n:Fin 256,x=UInt8.ofFin n:=⟨x.toFin,rfl⟩
  revert n
  decide +kernel
 exact hall c h k
theorem zoM {c:UInt8} (h:65≤(c.toNat:Int)) (k:(c.toNat:Int)≤90):(c.toNat:Int)+32=((loB c).toNat:Int):=by
 rw [zs6 h k,UInt8.toNat_ofNat']
 omega
theorem zin {w wr:World} {g c k n:Nat} {s:ByteArray} (hk:k=s.size) (hn:n=s.size) (h:Buf w wr g c (mixL k (bys s))):Sl wr (some ⟨g,0,none⟩) n c (zat (bys s)):=by
 subst hk hn
 have h1:=h.sl
 rw [zbS,zaf] at h1
 rw [← zaf s,zqR] at h1
 exact h1
theorem zdJ (s:ByteArray) (w:World) (hs:s.size≤maxLen):Calls Tryz.prog 91 #[.string s] w fun e w'=>e=.returned (.string (str (zat (bys s))))∧Ext w w':=by
 have Hs:=hid hs
 have hs63:s.size≤9223372036854775807:=by unfold maxLen at hs;omega
 clear hs
 go_enter Tryz.func91,Tryz.ntmps91
 go_wp2_with (refine zkZ rfl (.tmp 6) rfl s rfl Hs.out ?_;intro g c w1 hb1;have HB1:=hid hb1;clear hb1)
 go_loopw [10] (fun i wr=>∃ k:Nat,k≤s.size∧i=.int .i64 k∧Hid (Buf w wr g c (mixL k (bys s)))) (fun i _=>s.size-(intOf i).toNat)
 case atStart=>exact ⟨0,by omega,rfl,by rw [zk7];exact HB1⟩
 case round=>
  obtain ⟨k,hk,rfl,HB⟩:=hrel
  by_cases hlt:k<s.size
  ·obtain ⟨x,hx⟩:∃ x,x=((bys s)[k]?).getD 0:=⟨_,rfl⟩
   have e1:wr.cell? ⟨g,k,none⟩=some (.int .u8 (x.toNat:Int)):=by
    rw [HB.out.cells k (by rw [zbS,zaf];exact hlt),ziW k _ k (Nat.le_refl _) (by rw [zaf];exact hk),hx]
   have f1:wr.frozen? ⟨g,k,none⟩=false:=HB.out.thaw k (by rw [zbS,zaf];exact hlt)
   have hx1:(x.toNat:Int)<256:=by have:=x.toNat_lt;omega
   have HX:=hid hx
   clear hx
   by_cases h65:65≤(x.toNat:Int)
   ·by_cases h90:(x.toNat:Int)≤90
    ·have t1:=zpJ h65 h90
     have t2:=zoM h65 h90
     have HS:Hid (Buf w (wr.setCell ⟨g,k,none⟩ (.int .u8 ((loB x).toNat:Int))) g c (mixL (k+1) (bys s))):=by
      have:=HB.out.set k (loB x) (by rw [zbS,zaf];exact hlt)
      rw [HX.out,zhS k _ (by rw [zaf];exact hlt)] at this
      rw [HX.out]
      exact this
     go_wp2
     refine ⟨⟨k+1,by omega,by go_num,?_⟩,by simp [intOf];omega⟩
     exact HS
    ·have HS:Hid (Buf w wr g c (mixL (k+1) (bys s))):=by
      show Buf _ _ _ _ _
      rw [← zf0 k _ (by rw [zaf];exact hlt) (by rw [← HX.out];exact zrh (by omega))]
      exact HB.out
     go_wp2
     exact ⟨⟨k+1,by omega,by go_num,HS⟩,by simp [intOf];omega⟩
   ·have HS:Hid (Buf w wr g c (mixL (k+1) (bys s))):=by
     show Buf _ _ _ _ _
     rw [← zf0 k _ (by rw [zaf];exact hlt) (by rw [← HX.out];exact zrh (by omega))]
     exact HB.out
    go_wp2
    exact ⟨⟨k+1,by omega,by go_num,HS⟩,by simp [intOf];omega⟩
  ·obtain rfl:k=s.size:=by omega
   have hC:=(zin rfl rfl HB.out).conv wr (Ext.refl wr)
   go_wp2
   go_ret
   exact ⟨rfl,HB.out.ext⟩
theorem ziD (s:ByteArray) (w:World) (hs:s.size≤maxLen):Calls Tryz.prog 85 #[.string s] w fun e w'=>e=.returned (.string (str (zat (bys s))))∧Ext w w':=by
 have Hs:=hid hs
 have hs63:s.size≤9223372036854775807:=by unfold maxLen at hs;omega
 clear hs
 go_enter Tryz.func85,Tryz.ntmps85
 go_wp2_with (refine zkZ rfl (.tmp 5) rfl s rfl Hs.out ?_;intro g c w1 hb1;have HB1:=hid hb1;clear hb1)
 go_loopw [9] (fun i wr=>∃ k:Nat,k≤s.size∧i=.int .i64 k∧Hid (Buf w wr g c (mixL k (bys s)))) (fun i _=>s.size-(intOf i).toNat)
 case atStart=>exact ⟨0,by omega,rfl,by rw [zk7];exact HB1⟩
 case round=>
  obtain ⟨k,hk,rfl,HB⟩:=hrel
  by_cases hlt:k<s.size
  ·obtain ⟨x,hx⟩:∃ x,x=((bys s)[k]?).getD 0:=⟨_,rfl⟩
   have e1:wr.cell? ⟨g,k,none⟩=some (.int .u8 (x.toNat:Int)):=by
    rw [HB.out.cells k (by rw [zbS,zaf];exact hlt),ziW k _ k (Nat.le_refl _) (by rw [zaf];exact hk),hx]
   have f1:wr.frozen? ⟨g,k,none⟩=false:=HB.out.thaw k (by rw [zbS,zaf];exact hlt)
   have hx1:(x.toNat:Int)<256:=by have:=x.toNat_lt;omega
   have HX:=hid hx
   clear hx
   by_cases h65:65≤(x.toNat:Int)
   ·by_cases h90:(x.toNat:Int)≤90
    ·have t1:=zpJ h65 h90
     have t2:=zoM h65 h90
     have HS:Hid (Buf w (wr.setCell ⟨g,k,none⟩ (.int .u8 ((loB x).toNat:Int))) g c (mixL (k+1) (bys s))):=by
      have:=HB.out.set k (loB x) (by rw [zbS,zaf];exact hlt)
      rw [HX.out,zhS k _ (by rw [zaf];exact hlt)] at this
      rw [HX.out]
      exact this
     go_wp2
     refine ⟨⟨k+1,by omega,by go_num,?_⟩,by simp [intOf];omega⟩
     exact HS
    ·have HS:Hid (Buf w wr g c (mixL (k+1) (bys s))):=by
      show Buf _ _ _ _ _
      rw [← zf0 k _ (by rw [zaf];exact hlt) (by rw [← HX.out];exact zrh (by omega))]
      exact HB.out
     go_wp2
     exact ⟨⟨k+1,by omega,by go_num,HS⟩,by simp [intOf];omega⟩
   ·have HS:Hid (Buf w wr g c (mixL (k+1) (bys s))):=by
     show Buf _ _ _ _ _
     rw [← zf0 k _ (by rw [zaf];exact hlt) (by rw [← HX.out];exact zrh (by omega))]
     exact HB.out
    go_wp2
    exact ⟨⟨k+1,by omega,by go_num,HS⟩,by simp [intOf];omega⟩
  ·obtain rfl:k=s.size:=by omega
   have hC:=(zin rfl rfl HB.out).conv wr (Ext.refl wr)
   go_wp2
   go_ret
   exact ⟨rfl,HB.out.ext⟩
end Go.Proofs.YtioglicfndkgiaaGreatDoor
namespace Go.Proofs.YtioglicfndkgiaaGreatDoor
open Go.RowKit
set_option maxRecDepth 100000
theorem zfq (w:World) (xs:List ByteArray) (t:TypeId) (hm:xs.length≤maxLen) :
 Row Elem.str (fun _=>True) (w.alloc (.cells (xs.map .string).toArray t)) (some ⟨w.heap.size,0,none⟩) xs.length xs.length xs:=by
 refine ⟨rfl,Nat.le_refl _,hm,xs.map fun x=>[.string x],by simp,.inr ⟨w.heap.size,0,rfl,trivial,fun j u hj=>?_⟩,fun i v x hi hx=>?_⟩
 ·rw [Nat.zero_add,zda]
  have e:∀ l:List ByteArray,(l.map fun x=>[Value.string x]).flatten=l.map .string:=fun l=>by
   induction l with
   | nil=>rfl
   | cons x t ih=>simp only [List.map_cons,List.flatten_cons,ih];rfl
  rw [e] at hj
  simpa using hj
 ·rw [List.getElem?_map,hx] at hi
  simpa [Elem.str] using hi.symm
theorem zsa {α:Type} {E:Elem α} (w:World) (vs:List Value) (xs:List (List α)) (t:TypeId) (hm:xs.length≤maxLen) (hl:vs.length=xs.length)
 (h:∀ (i:Nat) v x,vs[i]?=some v→xs[i]?=some x→∃ A n c,v=.slice A n c∧Row E (fun _=>True) w A n c x) :
 Row (Elem.slc E) (fun _=>True) (w.alloc (.cells vs.toArray t)) (some ⟨w.heap.size,0,none⟩) xs.length xs.length xs:=by
 refine ⟨rfl,Nat.le_refl _,hm,vs.map fun v=>[v],by simpa using hl,.inr ⟨w.heap.size,0,rfl,trivial,fun j u hj=>?_⟩,fun i v x hi hx=>?_⟩
 ·rw [Nat.zero_add,zda]
  have e:∀ l:List Value,(l.map fun x=>[x]).flatten=l:=fun l=>by
   induction l with
   | nil=>rfl
   | cons x t ih=>simp only [List.map_cons,List.flatten_cons,ih];rfl
  rw [e] at hj
  simpa using hj
 ·rw [List.getElem?_map] at hi
  obtain ⟨v',hv,rfl⟩:=Option.map_eq_some_iff.1 hi
  obtain ⟨A,n,c,rfl,hr⟩:=h i v' x hv hx
  exact ⟨A,n,c,rfl,hr.ext (Ext.alloc _ _)⟩
def typRows:List (List (List UInt8)):=
 [[],[[111,98,106,101,99,116,67,108,97,115,115],[99,110],[111,117],[111],[100,99],[117,105,100],[100,101,115,99,114,105,112,116,105,111,110],[109,97,105,108]],
  [[117,115,101,114,80,97,115,115,119,111,114,100],[114,101,102]],[[115,101,114,105,97,108,78,117,109,98,101,114]],[[112,111,115,105,116,105,111,110]],
  [[97,108,105,97,115,101,100,79,98,106,101,99,116,78,97,109,101],[109,101,109,98,101,114]]]
def zcm (i:Nat):List (List UInt8):=typRows[i]?.getD []
def preT (i j:Nat):List (List UInt8 × Nat):=((List.range i).flatMap fun k=>(zcm k).map (·,k))++((zcm i).take j).map (·,i)
def zju (n:List UInt8) (i j:Nat):Prop:=∀ q∈preT i j,¬ zat q.1=zat n
theorem zpT {n:List UInt8} {i:Nat} (h:zju n i (zcm i).length):zju n (i+1) 0:=by
 intro q hq
 refine h q ?_
 simp only [preT,List.take_length,List.range_succ,List.flatMap_append,List.flatMap_cons,List.flatMap_nil,List.append_nil,List.take_zero,List.map_nil] at hq ⊢
 exact hq
theorem zm3 {n x:List UInt8} {i j:Nat} (h:zju n i j) (hx:(zcm i)[j]?=some x) (hn:¬ zat x=zat n):zju n i (j+1):=by
 intro q hq
 simp only [preT,List.take_add_one,hx,Option.toList_some,List.map_append,← List.append_assoc] at hq
 rcases List.mem_append.1 hq with hq | hq
 ·exact h q hq
 ·simp at hq;subst hq;exact hn
theorem zqJ {n:List UInt8} (h:zju n 6 0):zar n=([],0):=by
 have e:preT 6 0=typTab:=by decide
 unfold zju at h
 rw [e] at h
 unfold zar
 rw [List.find?_eq_none.2 (fun q hq=>by simpa using h q hq)]
 rfl
theorem zsx {n x:List UInt8} {i j:Nat} (hi:i<6) (h:zju n i j) (hx:(zcm i)[j]?=some x) (he:zat x=zat n):zar n=(x,i):=by
 have hj:j<8:=by
  have h1:=(List.getElem?_eq_some_iff.1 hx).1
  have h2:∀ i<6,(zcm i).length≤8:=by decide
  have:=h2 i hi
  omega
 have hall:∀ i<6,∀ j<8,∀ x∈(zcm i)[j]?,typTab=preT i j++(x,i)::typTab.drop ((preT i j).length+1):=by decide
 unfold zar
 rw [hall i hi j hj x (by rw [hx];rfl),List.find?_append,List.find?_eq_none.2 (fun q hq=>by simpa using h q hq)]
 simp [he]
abbrev strs (l:List (List UInt8)):List ByteArray:=l.map str
theorem zlJ {l:List (List UInt8)} {j:Nat} {x:ByteArray} (h:(strs l)[j]?=some x):l[j]?=some (bys x):=by
 rw [List.getElem?_map] at h
 obtain ⟨y,hy,rfl⟩:=Option.map_eq_some_iff.1 h
 rw [hy,zao]
theorem zn9 {i j:Nat} {x:List UInt8} (hi:i<6) (hx:(zcm i)[j]?=some x):x.length≤100:=by
 have hall:∀ i<6,∀ x∈zcm i,x.length≤100:=by decide
 exact hall i hi x (List.mem_of_getElem? hx)
theorem zhK {i:Nat} {x:List ByteArray} (h:(typRows.map strs)[i]?=some x):x=strs (zcm i):=by
 rw [List.getElem?_map] at h
 obtain ⟨y,hy,rfl⟩:=Option.map_eq_some_iff.1 h
 unfold zcm
 rw [hy]
 rfl
theorem zp9 (w:World) (t u:TypeId):Row (Elem.slc Elem.str) (fun _=>True)
 ((((((w.alloc (.cells ((strs (zcm 1)).map .string).toArray t)).alloc (.cells ((strs (zcm 2)).map .string).toArray t)).alloc (.cells ((strs (zcm 3)).map .string).toArray t)).alloc (.cells ((strs (zcm 4)).map .string).toArray t)).alloc (.cells ((strs (zcm 5)).map .string).toArray t)).alloc
   (.cells #[.slice none 0 0,.slice (some ⟨w.heap.size,0,none⟩) 8 8,.slice (some ⟨w.heap.size+1,0,none⟩) 2 2,.slice (some ⟨w.heap.size+2,0,none⟩) 1 1,.slice (some ⟨w.heap.size+3,0,none⟩) 1 1,.slice (some ⟨w.heap.size+4,0,none⟩) 2 2] u))
 (some ⟨w.heap.size+5,0,none⟩) 6 6 (typRows.map strs):=by
 have h1:=zfq w (strs (zcm 1)) t (by decide)
 generalize hw1:w.alloc (.cells ((strs (zcm 1)).map .string).toArray t)=w1 at *
 have z1:w1.heap.size=w.heap.size+1:=by rw [← hw1];simp
 have h2:=zfq w1 (strs (zcm 2)) t (by decide)
 have x1:=Ext.alloc w1 (.cells ((strs (zcm 2)).map .string).toArray t)
 generalize hw2:w1.alloc (.cells ((strs (zcm 2)).map .string).toArray t)=w2 at *
 have z2:w2.heap.size=w.heap.size+2:=by rw [← hw2];simp [z1]
 have h3:=zfq w2 (strs (zcm 3)) t (by decide)
 have x2:=Ext.alloc w2 (.cells ((strs (zcm 3)).map .string).toArray t)
 generalize hw3:w2.alloc (.cells ((strs (zcm 3)).map .string).toArray t)=w3 at *
 have z3:w3.heap.size=w.heap.size+3:=by rw [← hw3];simp [z2]
 have h4:=zfq w3 (strs (zcm 4)) t (by decide)
 have x3:=Ext.alloc w3 (.cells ((strs (zcm 4)).map .string).toArray t)
 generalize hw4:w3.alloc (.cells ((strs (zcm 4)).map .string).toArray t)=w4 at *
 have z4:w4.heap.size=w.heap.size+4:=by rw [← hw4];simp [z3]
 have h5:=zfq w4 (strs (zcm 5)) t (by decide)
 have x4:=Ext.alloc w4 (.cells ((strs (zcm 5)).map .string).toArray t)
 generalize hw5:w4.alloc (.cells ((strs (zcm 5)).map .string).toArray t)=w5 at *
 have z5:w5.heap.size=w.heap.size+5:=by rw [← hw5];simp [z4]
 have r1:=h1.ext (x1.trans (x2.trans (x3.trans x4)))
 have r2:=h2.ext (x2.trans (x3.trans x4))
 have r3:=h3.ext (x3.trans x4)
 have r4:=h4.ext x4
 rw [z1] at r2
 rw [z2] at r3
 rw [z3] at r4
 rw [z4] at h5
 have:=zsa (E:=Elem.str) w5 [.slice none 0 0,.slice (some ⟨w.heap.size,0,none⟩) 8 8,.slice (some ⟨w.heap.size+1,0,none⟩) 2 2,.slice (some ⟨w.heap.size+2,0,none⟩) 1 1,.slice (some ⟨w.heap.size+3,0,none⟩) 1 1,.slice (some ⟨w.heap.size+4,0,none⟩) 2 2] (typRows.map strs) u (by decide) rfl ?_
 ·rw [z5] at this
  exact this
 ·intro i v x hi hx
  rw [zhK hx]
  have hl:=(List.getElem?_eq_some_iff.1 hi).1
  simp only [List.length_cons,List.length_nil] at hl
  rcases i with _ | _ | _ | _ | _ | _ | i
  ·simp at hi;subst hi;exact ⟨_,_,_,rfl,Row.nil _ _ _⟩
  ·simp at hi;subst hi;exact ⟨_,_,_,rfl,r1⟩
  ·simp at hi;subst hi;exact ⟨_,_,_,rfl,r2⟩
  ·simp at hi;subst hi;exact ⟨_,_,_,rfl,r3⟩
  ·simp at hi;subst hi;exact ⟨_,_,_,rfl,r4⟩
  ·simp at hi;subst hi;exact ⟨_,_,_,rfl,h5⟩
  ·omega
def zaT (w:World) (n:List UInt8) (e:Ending) (w':World):Prop:=e=.returned (.tuple #[.string (str (zar n).1),.int .i64 ((zar n).2:Int)])∧Ext w w'
theorem zdg (s:ByteArray) (w:World) (hs:s.size≤maxLen):Calls Tryz.prog 61 #[.string s] w (zaT w (bys s)):=by
 have Hs:=hid hs
 clear hs
 go_enter Tryz.func61,Tryz.ntmps61
 go_wp2
 go_loopw [15] (fun i wr=>∃ k:Nat,k≤6∧i=.int .i64 k∧Hid (zju (bys s) k 0)∧Hid (Row (Elem.slc Elem.str) (fun _=>True) wr (some ⟨w.heap.size+5,0,none⟩) 6 6 (typRows.map strs))∧Hid (Ext w wr)) (fun i _=>6-(intOf i).toNat)
 case atStart=>
  refine ⟨0,by omega,rfl,fun q hq=>by simp [preT] at hq,zp9 w 9 55,?_⟩
  exact (Ext.alloc _ _).trans ((Ext.alloc _ _).trans ((Ext.alloc _ _).trans ((Ext.alloc _ _).trans ((Ext.alloc _ _).trans (Ext.alloc _ _)))))
 case round=>
  obtain ⟨k,hk,rfl,HN,HR,HX⟩:=hrel
  by_cases hlt:k<6
  ·obtain ⟨b1,o1,v1,x1,hA,g1,-,⟨A1,n1,c1,rfl,r1⟩,q1⟩:=HR.out.at_ hlt
   injection hA with hA
   injection hA with hA1 hA2
   subst hA1 hA2
   have e10:=q1 0 _ rfl
   simp only [Elem.slc,Nat.add_zero,Nat.zero_add,Nat.mul_one] at e10
   obtain rfl:=zhK g1
   have R1:=hid r1
   have hn1:n1≤9223372036854775807:=by have:=r1.cap;have:=r1.most;simp only [maxLen] at this;omega
   clear q1 g1 r1
   go_wp2
   go_loopw [22] (fun j wr'=>∃ m:Nat,m≤n1∧j=.int .i64 m∧Hid (zju (bys s) k m)∧Hid (Ext wr wr')) (fun j _=>n1-(intOf j).toNat)
   case atStart=>exact ⟨0,by omega,rfl,HN,Ext.refl _⟩
   case round=>
    obtain ⟨m,hm,rfl,HM,HY⟩:=hrel
    by_cases hlt2:m<n1
    ·obtain ⟨b2,o2,v2,x2,rfl,g2,-,hv2,q2⟩:=(R1.out.ext HY.out).at_ hlt2
     subst hv2
     have e20:=q2 0 _ rfl
     simp only [Elem.str,Nat.add_zero,Nat.mul_one] at e20
     have G2:=hid (zlJ g2)
     have hz2:=hid (show x2.size≤maxLen by have:=zn9 hlt (zlJ g2);rw [zaf] at this;simp only [maxLen];omega)
     clear q2 g2
     by_cases he:zat (bys x2)=zat (bys s)
     ·have ht:(zat (bys x2)==zat (bys s))=true:=beq_iff_eq.2 he
      have HH:=hid (zsx hlt HM.out G2.out he)
      clear he
      go_wp2_with (first
       | (go_at_call 91;(with_reducible refine (zdJ x2 _ hz2.out).mono ?_);rintro e w3 ⟨rfl,hx3⟩)
       | (go_at_call 91;(with_reducible refine (zdJ s _ Hs.out).mono ?_);rintro e w4 ⟨rfl,hx4⟩))
      go_ret2
      refine ⟨?_,HX.out.trans (HY.out.trans (hx3.trans hx4))⟩
      rw [HH.out,zaN];rfl
     ·have ht:(zat (bys x2)==zat (bys s))=false:=beq_eq_false_iff_ne.2 he
      have HH:=hid (zm3 HM.out G2.out he)
      clear he
      go_wp2_with (first
       | (go_at_call 91;(with_reducible refine (zdJ x2 _ hz2.out).mono ?_);rintro e w3 ⟨rfl,hx3⟩)
       | (go_at_call 91;(with_reducible refine (zdJ s _ Hs.out).mono ?_);rintro e w4 ⟨rfl,hx4⟩))
      exact ⟨⟨m+1,by omega,by go_num,HH,HY.out.trans (hx3.trans hx4)⟩,by simp [intOf];omega⟩
    ·obtain rfl:m=n1:=by omega
     have HH:=hid (zpT (n:=bys s) (i:=k) (by have:=R1.out.len;simp at this;rw [← this];exact HM.out))
     go_wp2
     exact ⟨⟨k+1,by omega,by go_num,HH,HR.out.ext HY.out,HX.out.trans HY.out⟩,by simp [intOf];omega⟩
  ·obtain rfl:k=6:=by omega
   have HH:=hid (zqJ HN.out)
   go_wp2
   go_ret2
   exact ⟨by rw [HH.out];rfl,HX.out⟩
def zrX (m:List UInt8):List UInt8 × Nat:=(typTab.find? fun p=>zat p.1==m).getD ([],0)
theorem znT {m:List UInt8} (h:∀ c∈([[111,98,106,101,99,116,99,108,97,115,115],[99,110],[111,117],[111],[100,99],[117,105,100],[100,101,115,99,114,105,112,116,105,111,110],[109,97,105,108],[117,115,101,114,112,97,115,115,119,111,114,100],[114,101,102],[115,101,114,105,97,108,110,117,109,98,101,114],[112,111,115,105,116,105,111,110],[97,108,105,97,115,101,100,111,98,106,101,99,116,110,97,109,101],[109,101,109,98,101,114]]:List (List UInt8)),(m==c)=false):zrX m=([],0):=by
 unfold zrX
 rw [List.find?_eq_none.2]
 ·rfl
 ·intro q hq e
  have hall:∀ q∈typTab,zat q.1∈([[111,98,106,101,99,116,99,108,97,115,115],[99,110],[111,117],[111],[100,99],[117,105,100],[100,101,115,99,114,105,112,116,105,111,110],[109,97,105,108],[117,115,101,114,112,97,115,115,119,111,114,100],[114,101,102],[115,101,114,105,97,108,110,117,109,98,101,114],[112,111,115,105,116,105,111,110],[97,108,105,97,115,101,100,111,98,106,101,99,116,110,97,109,101],[109,101,109,98,101,114]]:List (List UInt8)):=by decide
  have h1:=h _ (hall q hq)
  rw [beq_iff_eq.1 e] at h1
  simp at h1
theorem zeB (s:ByteArray) (w:World) (hs:s.size≤maxLen):Calls Tryz.prog 55 #[.string s] w (zaT w (bys s)):=by
 have Hs:=hid hs
 have HT:Hid (∀ x,zrX (zat (bys s))=x→zar (bys s)=x):=fun x h=>h
 clear hs
 obtain ⟨m,hm⟩:∃ m,m=zat (bys s):=⟨_,rfl⟩
 rw [← hm] at HT
 have HL:∀ w:World,Calls Tryz.prog 85 #[.string s] w fun e w'=>e=.returned (.string (str m))∧Ext w w':=fun w=>by
  rw [hm];exact ziD s w Hs.out
 clear hm
 go_enter Tryz.func55,Tryz.ntmps55
 go_wp2_with (go_at_call 85;(with_reducible refine (HL _).mono ?_);rintro e w3 ⟨rfl,hx3⟩)
 all_goals go_ret2
 all_goals (refine ⟨?_,by first | assumption | exact Ext.trans (by assumption) (by assumption)⟩)
 all_goals first
  | (have e:=beq_iff_eq.1 (by assumption:(m==_)=true);subst e;rw [HT.out _ rfl];rfl)
  | (exfalso;have e:=beq_iff_eq.1 (by assumption:(m==_)=true);clear HL HT;subst e;simp at *;done)
  | (rw [HT.out _ (znT (by intro c hc;simp only [List.mem_cons,List.not_mem_nil,or_false] at hc;(repeat (rcases hc with rfl | hc;· assumption))))];rfl)
end Go.Proofs.YtioglicfndkgiaaGreatDoor
namespace Go.Proofs.YtioglicfndkgiaaGreatDoor
open Go.RowKit
set_option maxRecDepth 100000
structure Facts (w:World):Prop where
 maxlen:∃ m,w.cell? ⟨0,0,none⟩=some (.int .i64 m)
 syn:∃ tp p,w.var? Tryz.prog "strconv.ErrSyntax" = some #[.iface tp p]
 rng:∃ tp p,w.var? Tryz.prog "strconv.ErrRange" = some #[.iface tp p]
 pow:Lib.TabIs Tryz.prog w "internal/strconv.uint64pow10" .u64 Lib.pow10Tab
theorem gSyn:Tryz.prog.globalNamed "strconv.ErrSyntax" = some 1:=by kernel_rfl
theorem gRng:Tryz.prog.globalNamed "strconv.ErrRange" = some 2:=by kernel_rfl
theorem gPow:Tryz.prog.globalNamed "internal/strconv.uint64pow10" = some 3:=by kernel_rfl
theorem zoS {w:World} {n:String} {g:Nat} {cs:Array Value} (hg:Tryz.prog.globalNamed n=some g) (h:w.var? Tryz.prog n=some cs):g<w.heap.size:=by
 unfold World.var? at h
 simp only [hg,Option.bind_some] at h
 rcases Nat.lt_or_ge g w.heap.size with h' | h'
 ·exact h'
 ·simp [Array.getElem?_eq_none h'] at h
theorem Facts.ext {w w':World} (h:Facts w) (hx:Ext w w'):Facts w':=by
 obtain ⟨⟨m,h1⟩,⟨a,b,h2⟩,⟨c,d,h3⟩,h4⟩:=h
 exact ⟨⟨m,zaa h1 _ hx⟩,⟨a,b,var?_below hx gSyn (zoS gSyn h2) h2⟩,⟨c,d,var?_below hx gRng (zoS gRng h3) h3⟩,var?_below hx gPow (zoS gPow h4) h4⟩
def Gl (w:World):Prop:=Facts w
theorem Gl.ext {w w':World} (h:Gl w) (hx:Ext w w'):Gl w':=Facts.ext h hx
theorem zf1 {w:World} {b b':Nat} {e:TypeId} {size:Nat} {v:Value} {n:Nat} {xs:List Value} (h:w.ownsRow b e size v n xs) (hb:b'≤b):w.ownsRow b' e size v n xs:=by
 obtain ⟨h1,h2⟩:=h
 refine ⟨h1,?_⟩
 rcases h2 with h2 | ⟨g,cap,cur,h3,h4,h5⟩
 ·exact .inl h2
 ·exact .inr ⟨g,cap,cur,h3,Nat.le_trans hb h4,h5⟩
structure GrowB (w wr:World) (v:Value) (xs:List UInt8):Prop where
 own:wr.ownsRow w.heap.size 5 1 v xs.length (xs.map bv)
 ext:Ext w wr
theorem GrowB.nil {w wr:World} (hx:Ext w wr):GrowB w wr (.slice none 0 0) []:=⟨World.ownsRow_nil _ _ _ _,hx⟩
theorem GrowB.later {w wr w':World} {v:Value} {l:List UInt8} (h:GrowB w wr v l) (hx:Ext wr w'):GrowB w w' v l:=⟨zd6 h.own hx,h.ext.trans hx⟩
theorem GrowB.sl {w wr:World} {v:Value} {l:List UInt8} (h:GrowB w wr v l):∃ A c,v=.slice A l.length c∧Sl wr A l.length c l:=by
 have ho:=h.own
 obtain ⟨A,c,rfl⟩:=zdh ho
 exact ⟨A,c,rfl,Sl.of_own ho⟩
theorem zdS (w:World) (x:UInt8):Sl (w.alloc (.cells #[.int .u8 (x.toNat:Int)] 5)) (some ⟨w.heap.size,0,none⟩) 1 1 [x]:=by
 have h:=zrG w (x.toNat:Int) ⟨by omega,by have:=x.toNat_lt;omega⟩
 rwa [Int.toNat_natCast,UInt8.ofNat_toNat] at h
theorem zpd {m:List UInt8} {j:Nat} {x:UInt8} (h:m[j]?=some x) (h':j<(str m).size):(str m)[j]'h'=x:=by
 have hl:=(List.getElem?_eq_some_iff.1 h)
 obtain ⟨h1,h2⟩:=hl
 exact h2
theorem zbg (a b:List UInt8):str a++str b=str (a++b):=by
 have:(str a++str b).data=(str (a++b)).data:=by rw [ByteArray.data_append];simp
 exact ByteArray.ext this
theorem za0 {s:ByteArray} {j:Nat} {x:UInt8} (h:(bys s)[j]?=some x) (h':j<s.size):s[j]'h'=x:=by
 obtain ⟨⟨l⟩⟩:=s
 exact zpd h h'
theorem za6 {x:UInt8} {k:Nat} (hk:k<256) (h:x=UInt8.ofNat k):((x.toNat:Int)==(k:Int))=true:=by
 subst h
 rw [beq_iff_eq,UInt8.toNat_ofNat']
 omega
theorem zau {x:UInt8} {k:Nat} (h:¬ x=UInt8.ofNat k):((x.toNat:Int)==(k:Int))=false:=by
 rw [beq_eq_false_iff_ne]
 intro e
 exact h (UInt8.toNat_inj.1 (by rw [UInt8.toNat_ofNat'];have:=x.toNat_lt;omega))
theorem zdu {w w0:World} {o:Oper} {a:Act} {K:Act→World→Prop} {Q:Exit→Act→World→Prop} (s x:Operand)
 (ho:o.op=.call { callee:=.builtin .append,args:=#[s,x],argTypes:=#[129,129] })
 (v:Value) (xs:List UInt8) (hs:a.eval s=v) (hg:GrowB w0 w v xs) (A:Option Addr) (m c:Nat) (ys:List UInt8) (hx:a.eval x=.slice A m c) (hy:Sl w A m c ys)
 (hb:xs.length+m≤140737488355328) (h:∀ v' w',GrowB w0 w' v' (xs++ys)→Below w0.heap.size w w'→K (a.put o.dst v') w'):o.wp Tryz.prog a w K Q:=by
 have hm:=hy.len
 obtain ⟨i0,hi,hz0,hz1,hz2⟩:=info_parts Tryz.infoByte
 refine zcU s x 129 ho w0.heap.size 5 i0 (.int .u8 0) 1 Tryz.underlying129 hi hz0 hz1 hz2 rfl v xs.length (xs.map bv) hs hg.own A m c (ys.map bv) hx (by simpa using hy.len) hy.cells ?_ (by simp [maxLen];omega) (by omega) (zaD hg.ext) ?_
 ·intro u hu
  obtain ⟨b,_,rfl⟩:=List.mem_map.1 hu
  rfl
 ·intro v' w' h1 h2 _
  have hb:=zbY hg.own h2 (zaD hg.ext) (Nat.le_refl _)
  refine h v' w' ⟨?_,Below.trans hg.ext hb⟩ hb
  rw [List.length_append,← hm,List.map_append]
  exact h1
theorem zbC {w w0:World} {ops:Array Oper} {rest:List Oper} {o:Oper} {a:Act} {Q:Exit→Act→World→Prop} (hgd:o.guard=none) (s x:Operand)
 (ho:o.op=.call { callee:=.builtin .append,args:=#[s,x],argTypes:=#[129,129] })
 (v:Value) (xs:List UInt8) (hs:a.eval s=v) (hg:GrowB w0 w v xs) (A:Option Addr) (m c:Nat) (ys:List UInt8) (hx:a.eval x=.slice A m c) (hy:Sl w A m c ys)
 (hb:xs.length+m≤140737488355328) (h:∀ v' w',GrowB w0 w' v' (xs++ys)→wpList Tryz.prog ops Q rest (a.put o.dst v') w'):wpList Tryz.prog ops Q (o::rest) a w:=
 wpList_plain hgd fun _ hK=>zdu s x ho v xs hs hg A m c ys hx hy hb fun v' w' h1 _=>hK _ _ (h v' w' h1)
structure GrowS (w wr:World) (v:Value) (l:List ByteArray):Prop where
 own:wr.ownsRow w.heap.size 9 1 v l.length (l.map .string)
 ext:Ext w wr
theorem GrowS.nil {w wr:World} (hx:Ext w wr):GrowS w wr (.slice none 0 0) []:=⟨World.ownsRow_nil _ _ _ _,hx⟩
theorem GrowS.later {w wr w':World} {v:Value} {l:List ByteArray} (h:GrowS w wr v l) (hx:Ext wr w'):GrowS w w' v l:=⟨zd6 h.own hx,h.ext.trans hx⟩
theorem GrowS.base {w w1 wr:World} {v:Value} {l:List ByteArray} (h:GrowS w1 wr v l) (hx:Ext w w1):GrowS w wr v l:=⟨zf1 h.own (zaD hx),hx.trans h.ext⟩
theorem GrowS.row {w wr:World} {v:Value} {l:List ByteArray} (h:GrowS w wr v l):∃ A c,v=.slice A l.length c∧Row Elem.str (fun b=>w.heap.size≤b) wr A l.length c l:=by
 have ho:=h.own
 obtain ⟨A,c,rfl⟩:=zdh ho
 exact ⟨A,c,rfl,zrP ho fun g hg=>(ho.lt g hg).1⟩
theorem zse:(Tryz.prog.info? 9).map (fun i=>(i.zero,i.size,i.bytes))=some (some (.string ByteArray.empty),1,16):=by kernel_rfl
section
variable {w w0:World} {ops:Array Oper} {rest:List Oper} {o:Oper} {a:Act} {Q:Exit→Act→World→Prop} {K:Act→World→Prop}
theorem zig (s x:Operand) (ho:o.op=.call { callee:=.builtin .append,args:=#[s,x],argTypes:=#[55,55] })
 (v:Value) (l:List ByteArray) (hs:a.eval s=v) (hg:GrowS w0 w v l) (A:Option Addr) (m c:Nat) (ys:List ByteArray) (hx:a.eval x=.slice A m c) (hm:m=ys.length) (hy:Cells w A (ys.map .string))
 (hb:l.length+m≤8796093022208) (h:∀ v' w',GrowS w0 w' v' (l++ys)→K (a.put o.dst v') w'):o.wp Tryz.prog a w K Q:=by
 obtain ⟨i0,hi,hz0,hz1,hz2⟩:=info_parts zse
 refine zcU s x 55 ho w0.heap.size 9 i0 (.string ByteArray.empty) 16 Tryz.underlying55 hi hz0 hz1 hz2 rfl v l.length (l.map .string) hs hg.own A m c (ys.map .string) hx (by simpa using hm) hy ?_ (by simp [maxLen];omega) (by omega) (zaD hg.ext) ?_
 ·intro u hu
  obtain ⟨b,_,rfl⟩:=List.mem_map.1 hu
  rfl
 ·intro v' w' h1 h2 _
  refine h v' w' ⟨?_,zbY hg.own h2 (zaD hg.ext) (Nat.le_refl _) |> fun hb=>Below.trans hg.ext hb⟩
  rw [List.length_append,← hm,List.map_append]
  exact h1
theorem zfv (hgd:o.guard=none) (s x:Operand) (ho:o.op=.call { callee:=.builtin .append,args:=#[s,x],argTypes:=#[55,55] })
 (v:Value) (l:List ByteArray) (hs:a.eval s=v) (hg:GrowS w0 w v l) (A:Option Addr) (m c:Nat) (ys:List ByteArray) (hx:a.eval x=.slice A m c) (hm:m=ys.length) (hy:Cells w A (ys.map .string))
 (hb:l.length+m≤8796093022208) (h:∀ v' w',GrowS w0 w' v' (l++ys)→wpList Tryz.prog ops Q rest (a.put o.dst v') w'):wpList Tryz.prog ops Q (o::rest) a w:=
 wpList_plain hgd fun _ hK=>zig s x ho v l hs hg A m c ys hx hm hy hb fun v' w' h1=>hK _ _ (h v' w' h1)
theorem znu (w:World) (y:ByteArray) (t:TypeId):Cells (w.alloc (.cells #[.string y] t)) (some ⟨w.heap.size,0,none⟩) ([y].map .string):=
 (zfq w [y] t (by simp [maxLen])).str_cells
theorem zct {w:World} {y:ByteArray} {t:TypeId} (hgd:o.guard=none) (s x:Operand) (ho:o.op=.call { callee:=.builtin .append,args:=#[s,x],argTypes:=#[55,55] })
 (v:Value) (l:List ByteArray) (hs:a.eval s=v) (hg:GrowS w0 w v l) (hx:a.eval x=.slice (some ⟨w.heap.size,0,none⟩) 1 1)
 (hb:l.length+1≤8796093022208) (h:∀ v' w',GrowS w0 w' v' (l++[y])→wpList Tryz.prog ops Q rest (a.put o.dst v') w'):wpList Tryz.prog ops Q (o::rest) a (w.alloc (.cells #[.string y] t)):=
 zfv hgd s x ho v l hs (hg.later (Ext.alloc _ _)) _ 1 1 [y] hx rfl (znu w y t) hb h
end
end Go.Proofs.YtioglicfndkgiaaGreatDoor
