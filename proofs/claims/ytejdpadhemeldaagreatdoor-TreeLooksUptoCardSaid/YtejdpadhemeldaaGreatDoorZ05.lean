/- Lemmas of the walk that the last text of this claim joins. -/
import Derived.Test.YtejdpadhemeldaaGreatDoorZ03
import Derived.Lib.ConvBytes
import Derived.Test.YtejdpadhemeldaaGreatDoorZ02
set_option maxHeartbeats 40000000
set_option linter.unusedVariables false
set_option linter.unusedSimpArgs false
namespace Go.Proofs.YtejdpadhemeldaaGreatDoor
open Go.RowKit
abbrev bys (s : ByteArray) : List UInt8:=s.data.toList
theorem bys_len (s : ByteArray) : (bys s).length = s.size:=by obtain ⟨⟨l⟩⟩:=s;rfl
theorem str_emp {s : ByteArray} (h : s.size = 0) : s = ByteArray.empty:=by
 obtain ⟨⟨l⟩⟩:=s
 cases l
 ·rfl
 ·simp [ByteArray.size] at h
theorem emp_yes {s : ByteArray} (h : s.size = 0) : s.toList = []:=by
 rw [str_emp h,ByteArray.toList_eq];rfl
theorem emp_no {s : ByteArray} (h : ¬ s.size = 0) : ¬ s.toList = []:=by
 intro e
 rw [ByteArray.toList_eq] at e
 apply h
 obtain ⟨⟨l⟩⟩:=s
 simp at e
 subst e
 rfl
theorem emp_nb {s : ByteArray} (h : ¬ s.size = 0) : s.toList.isEmpty = false:=by rw [List.isEmpty_eq_false_iff];exact emp_no h
section
variable {w : World} {ops : Array Oper} {rest : List Oper} {o : Oper} {a : Act} {Q : Exit → Act → World → Prop} {K : Act → World → Prop}
end
end Go.Proofs.YtejdpadhemeldaaGreatDoor
namespace Go.Proofs.YtejdpadhemeldaaGreatDoor
open Go.RowKit
set_option maxRecDepth 100000
abbrev str (xs : List UInt8) : ByteArray:=⟨xs.toArray⟩
theorem bys_str (xs : List UInt8) : bys (str xs) = xs:=by simp [bys]
theorem str_bys (s : ByteArray) : str (bys s) = s:=by obtain ⟨⟨l⟩⟩:=s;rfl
theorem str_size (xs : List UInt8) : (str xs).size = xs.length:=rfl
structure Buf (w w' : World) (g c : Nat) (xs : List UInt8) : Prop where
 new : w.heap.size ≤ g
 cells : ∀ j (_ : j < xs.length),w'.cell? ⟨g,j,none⟩ = some (.int .u8 (((xs[j]?).getD 0).toNat : Int))
 thaw : ∀ j (_ : j < xs.length),w'.frozen? ⟨g,j,none⟩ = false
 ext : Ext w w'
 cap : xs.length ≤ c
 most : c ≤ maxLen
theorem Buf.sl {w w' : World} {g c : Nat} {xs : List UInt8} (h : Buf w w' g c xs) : Sl w' (some ⟨g,0,none⟩) xs.length c xs:=by
 refine ⟨rfl,h.cap,h.most,.inr ⟨g,0,rfl,fun j u hj=>?_⟩⟩
 have hl : j < xs.length:=by have:=(List.getElem?_eq_some_iff.1 hj).1;simpa using this
 rw [Nat.zero_add,h.cells j hl]
 rw [List.getElem?_map,List.getElem?_eq_getElem hl] at hj
 rw [List.getElem?_eq_getElem hl]
 simpa [bv] using hj
theorem Buf.set {w w' : World} {g c : Nat} {xs : List UInt8} (h : Buf w w' g c xs) (k : Nat) (b : UInt8) (hk : k < xs.length) : Buf w (w'.setCell ⟨g,k,none⟩ (.int .u8 (b.toNat : Int))) g c (xs.set k b):=by
 refine ⟨h.new,fun j hj=>?_,fun j hj=>?_,?_,by simpa using h.cap,h.most⟩
 ·rw [List.length_set] at hj
  by_cases e : k = j
  ·subst e
   rw [World.cell?_setCell_same w' _ _ (h.cells k hk),List.getElem?_set_self hk]
   rfl
  ·rw [World.cell?_setCell_other w' _ _ _ (by intro h;injection h;omega),List.getElem?_set_ne e]
   exact h.cells j hj
 ·rw [List.length_set] at hj
  rw [World.frozen?_setCell]
  exact h.thaw j hj
 ·refine ⟨h.ext.os,h.ext.tape,h.ext.output,by simpa using h.ext.size,fun k hk=>?_⟩
  rw [heap_setCell_other _ _ _ _ (by have:=h.new;simp;omega)]
  exact h.ext.block k hk
theorem buf_new (w : World) (e : TypeId) (s : ByteArray) (hm : s.size ≤ maxLen) : Buf w (Lib.bytesWorld w e s) w.heap.size (grownCap w s.size 0 e) (bys s):=by
 refine ⟨Nat.le_refl _,fun j hj=>?_,fun j hj=>?_,?_,by rw [bys_len];exact grownCap_ge w s.size 0 e,grownCap_le_maxLen w s.size 0 e hm⟩
 ·rw [bys_len] at hj
  rw [Lib.bytesWorld_cell w e s j hj,List.getD_eq_getElem?_getD]
 ·rw [bys_len] at hj
  have : s.size ≤ (Lib.bytesCells w e s).size:=by unfold Lib.bytesCells;rw [Array.size_append,Array.size_map];show s.size ≤ s.size + _;omega
  simp [World.frozen?,Lib.bytesWorld_at_new]
  omega
 ·refine ⟨?_,?_,?_,by rw [Lib.bytesWorld_size];omega,fun k hk=>Lib.bytesWorld_at_old w e s k hk⟩
  all_goals
   simp only [Lib.bytesWorld,World.freeze,World.alloc,World.drew]
   split <;> rfl
section
variable {w : World} {ops : Array Oper} {rest : List Oper} {o : Oper} {a : Act} {Q : Exit → Act → World → Prop} {K : Act → World → Prop}
theorem tobuf_wp (x : Operand) (ho : o.op = .convert 9 105 x) (s : ByteArray) (hx : a.eval x = .string s) (hm : s.size ≤ maxLen)
 (h : ∀ g c w',Buf w w' g c (bys s) → K (a.put o.dst (.slice (some ⟨g,0,none⟩) s.size c)) w') : o.wp Tryz.prog a w K Q:=by
 have hr:=Lib.run_convert_string_bytes (P:=Tryz.prog) w _ _ _ s Tryz.underlying9 Tryz.underlying105 Tryz.underlying5
 unfold Oper.wp execOp
 simp only [ho,hx,Sem.run_bind,hr,Result.andThen_ok,Sem.run_pure]
 exact h _ _ _ (buf_new w _ s hm)
theorem tobuf_arm (hgd : o.guard = none) (x : Operand) (ho : o.op = .convert 9 105 x) (s : ByteArray) (hx : a.eval x = .string s) (hm : s.size ≤ maxLen)
 (h : ∀ g c w',Buf w w' g c (bys s) → wpList Tryz.prog ops Q rest (a.put o.dst (.slice (some ⟨g,0,none⟩) s.size c)) w') : wpList Tryz.prog ops Q (o :: rest) a w:=
 wpList_plain hgd fun _ hK=>tobuf_wp x ho s hx hm fun g c w' h1=>hK _ _ (h g c w' h1)
end
def mixL (k : Nat) (s : List UInt8) : List UInt8:=(s.take k).map loB ++ s.drop k
theorem mixL_length (k : Nat) (s : List UInt8) : (mixL k s).length = s.length:=by simp [mixL];omega
theorem mixL_zero (s : List UInt8) : mixL 0 s = s:=by simp [mixL]
theorem mixL_all (s : List UInt8) : mixL s.length s = lowerB s:=by simp [mixL,lowerB]
theorem mixL_get (k : Nat) (s : List UInt8) (j : Nat) (h : k ≤ j) (hk : k ≤ s.length) : (mixL k s)[j]? = s[j]?:=by
 unfold mixL
 rw [List.getElem?_append_right (by simp;omega)]
 simp
 congr 1
 omega
theorem mixL_step (k : Nat) (s : List UInt8) (h : k < s.length) : (mixL k s).set k (loB (s[k]?.getD 0)) = mixL (k + 1) s:=by
 unfold mixL
 rw [List.set_append_right _ _ (by simp;omega)]
 have e : k - (List.map loB (List.take k s)).length = 0:=by simp;omega
 rw [e,List.drop_eq_getElem_cons h,List.set_cons_zero,List.take_add_one,List.getElem?_eq_getElem h,List.map_append]
 simp
theorem mixL_skip (k : Nat) (s : List UInt8) (h : k < s.length) (hl : loB (s[k]?.getD 0) = s[k]?.getD 0) : mixL k s = mixL (k + 1) s:=by
 rw [← mixL_step k s h,hl]
 apply List.ext_getElem?
 intro j
 by_cases e : k = j
 ·subst e
  rw [List.getElem?_set_self (by rw [mixL_length];exact h),mixL_get k s k (Nat.le_refl _) (by omega),List.getElem?_eq_getElem h]
  simp
 ·rw [List.getElem?_set_ne e]
theorem lo_up {c : UInt8} (h : 65 ≤ (c.toNat : Int)) (k : (c.toNat : Int) ≤ 90) : loB c = UInt8.ofNat (c.toNat + 32):=by unfold loB;rw [if_pos (by omega)]
theorem lo_no {c : UInt8} (h : ¬ (65 ≤ (c.toNat : Int) ∧ (c.toNat : Int) ≤ 90)) : loB c = c:=by unfold loB;rw [if_neg (by omega)]
theorem lo_bits {c : UInt8} (h : 65 ≤ (c.toNat : Int)) (k : (c.toNat : Int) ≤ 90) : bits BinOp.or IntKind.u8 (c.toNat : Int) 32 = ((loB c).toNat : Int):=by
 have hall : ∀ c : UInt8,65 ≤ (c.toNat : Int) → (c.toNat : Int) ≤ 90 → bits BinOp.or IntKind.u8 (c.toNat : Int) 32 = ((loB c).toNat : Int):=by
  intro x
  obtain ⟨n,rfl⟩ : ∃ n : Fin 256,x = UInt8.ofFin n:=⟨x.toFin,rfl⟩
  revert n
  decide +kernel
 exact hall c h k
theorem lo_plus {c : UInt8} (h : 65 ≤ (c.toNat : Int)) (k : (c.toNat : Int) ≤ 90) : (c.toNat : Int) + 32 = ((loB c).toNat : Int):=by
 rw [lo_up h k,UInt8.toNat_ofNat']
 omega
theorem lower_done {w wr : World} {g c k n : Nat} {s : ByteArray} (hk : k = s.size) (hn : n = s.size) (h : Buf w wr g c (mixL k (bys s))) : Sl wr (some ⟨g,0,none⟩) n c (lowerB (bys s)):=by
 subst hk hn
 have h1:=h.sl
 rw [mixL_length,bys_len] at h1
 rw [← bys_len s,mixL_all] at h1
 exact h1
theorem lower_any (s : ByteArray) (w : World) (hs : s.size ≤ maxLen) : Calls Tryz.prog 83 #[.string s] w fun e w'=>e = .returned (.string (str (lowerB (bys s)))) ∧ Ext w w':=by
 have Hs:=hid hs
 have hs63 : s.size ≤ 9223372036854775807:=by unfold maxLen at hs;omega
 clear hs
 go_enter Tryz.func83,Tryz.ntmps83
 go_wp2_with (refine tobuf_arm rfl (.tmp 6) rfl s rfl Hs.out ?_;intro g c w1 hb1;have HB1:=hid hb1;clear hb1)
 go_loopw [10] (fun i wr=>∃ k : Nat,k ≤ s.size ∧ i = .int .i64 k ∧ Hid (Buf w wr g c (mixL k (bys s)))) (fun i _=>s.size - (intOf i).toNat)
 case atStart=>exact ⟨0,by omega,rfl,by rw [mixL_zero];exact HB1⟩
 case round=>
  obtain ⟨k,hk,rfl,HB⟩:=hrel
  by_cases hlt : k < s.size
  ·obtain ⟨x,hx⟩ : ∃ x,x = ((bys s)[k]?).getD 0:=⟨_,rfl⟩
   have e1 : wr.cell? ⟨g,k,none⟩ = some (.int .u8 (x.toNat : Int)):=by
    rw [HB.out.cells k (by rw [mixL_length,bys_len];exact hlt),mixL_get k _ k (Nat.le_refl _) (by rw [bys_len];exact hk),hx]
   have f1 : wr.frozen? ⟨g,k,none⟩ = false:=HB.out.thaw k (by rw [mixL_length,bys_len];exact hlt)
   have hx1 : (x.toNat : Int) < 256:=by have:=x.toNat_lt;omega
   have HX:=hid hx
   clear hx
   by_cases h65 : 65 ≤ (x.toNat : Int)
   ·by_cases h90 : (x.toNat : Int) ≤ 90
    ·have t1:=lo_bits h65 h90
     have t2:=lo_plus h65 h90
     have HS : Hid (Buf w (wr.setCell ⟨g,k,none⟩ (.int .u8 ((loB x).toNat : Int))) g c (mixL (k + 1) (bys s))):=by
      have:=HB.out.set k (loB x) (by rw [mixL_length,bys_len];exact hlt)
      rw [HX.out,mixL_step k _ (by rw [bys_len];exact hlt)] at this
      rw [HX.out]
      exact this
     go_wp2
     refine ⟨⟨k + 1,by omega,by go_num,?_⟩,by simp [intOf];omega⟩
     exact HS
    ·have HS : Hid (Buf w wr g c (mixL (k + 1) (bys s))):=by
      show Buf _ _ _ _ _
      rw [← mixL_skip k _ (by rw [bys_len];exact hlt) (by rw [← HX.out];exact lo_no (by omega))]
      exact HB.out
     go_wp2
     exact ⟨⟨k + 1,by omega,by go_num,HS⟩,by simp [intOf];omega⟩
   ·have HS : Hid (Buf w wr g c (mixL (k + 1) (bys s))):=by
     show Buf _ _ _ _ _
     rw [← mixL_skip k _ (by rw [bys_len];exact hlt) (by rw [← HX.out];exact lo_no (by omega))]
     exact HB.out
    go_wp2
    exact ⟨⟨k + 1,by omega,by go_num,HS⟩,by simp [intOf];omega⟩
  ·obtain rfl : k = s.size:=by omega
   have hC:=(lower_done rfl rfl HB.out).conv wr (Ext.refl wr)
   go_wp2
   go_ret
   exact ⟨rfl,HB.out.ext⟩
theorem rlower_any (s : ByteArray) (w : World) (hs : s.size ≤ maxLen) : Calls Tryz.prog 125 #[.string s] w fun e w'=>e = .returned (.string (str (lowerB (bys s)))) ∧ Ext w w':=by
 have Hs:=hid hs
 have hs63 : s.size ≤ 9223372036854775807:=by unfold maxLen at hs;omega
 clear hs
 go_enter Tryz.func125,Tryz.ntmps125
 go_wp2_with (refine tobuf_arm rfl (.tmp 5) rfl s rfl Hs.out ?_;intro g c w1 hb1;have HB1:=hid hb1;clear hb1)
 go_loopw [9] (fun i wr=>∃ k : Nat,k ≤ s.size ∧ i = .int .i64 k ∧ Hid (Buf w wr g c (mixL k (bys s)))) (fun i _=>s.size - (intOf i).toNat)
 case atStart=>exact ⟨0,by omega,rfl,by rw [mixL_zero];exact HB1⟩
 case round=>
  obtain ⟨k,hk,rfl,HB⟩:=hrel
  by_cases hlt : k < s.size
  ·obtain ⟨x,hx⟩ : ∃ x,x = ((bys s)[k]?).getD 0:=⟨_,rfl⟩
   have e1 : wr.cell? ⟨g,k,none⟩ = some (.int .u8 (x.toNat : Int)):=by
    rw [HB.out.cells k (by rw [mixL_length,bys_len];exact hlt),mixL_get k _ k (Nat.le_refl _) (by rw [bys_len];exact hk),hx]
   have f1 : wr.frozen? ⟨g,k,none⟩ = false:=HB.out.thaw k (by rw [mixL_length,bys_len];exact hlt)
   have hx1 : (x.toNat : Int) < 256:=by have:=x.toNat_lt;omega
   have HX:=hid hx
   clear hx
   by_cases h65 : 65 ≤ (x.toNat : Int)
   ·by_cases h90 : (x.toNat : Int) ≤ 90
    ·have t1:=lo_bits h65 h90
     have t2:=lo_plus h65 h90
     have HS : Hid (Buf w (wr.setCell ⟨g,k,none⟩ (.int .u8 ((loB x).toNat : Int))) g c (mixL (k + 1) (bys s))):=by
      have:=HB.out.set k (loB x) (by rw [mixL_length,bys_len];exact hlt)
      rw [HX.out,mixL_step k _ (by rw [bys_len];exact hlt)] at this
      rw [HX.out]
      exact this
     go_wp2
     refine ⟨⟨k + 1,by omega,by go_num,?_⟩,by simp [intOf];omega⟩
     exact HS
    ·have HS : Hid (Buf w wr g c (mixL (k + 1) (bys s))):=by
      show Buf _ _ _ _ _
      rw [← mixL_skip k _ (by rw [bys_len];exact hlt) (by rw [← HX.out];exact lo_no (by omega))]
      exact HB.out
     go_wp2
     exact ⟨⟨k + 1,by omega,by go_num,HS⟩,by simp [intOf];omega⟩
   ·have HS : Hid (Buf w wr g c (mixL (k + 1) (bys s))):=by
     show Buf _ _ _ _ _
     rw [← mixL_skip k _ (by rw [bys_len];exact hlt) (by rw [← HX.out];exact lo_no (by omega))]
     exact HB.out
    go_wp2
    exact ⟨⟨k + 1,by omega,by go_num,HS⟩,by simp [intOf];omega⟩
  ·obtain rfl : k = s.size:=by omega
   have hC:=(lower_done rfl rfl HB.out).conv wr (Ext.refl wr)
   go_wp2
   go_ret
   exact ⟨rfl,HB.out.ext⟩
end Go.Proofs.YtejdpadhemeldaaGreatDoor
