/- Lemmas of the walk that the last text of this claim joins. -/
import Derived.Test.YtejdpadhemeldaaGreatDoorZ10
import Derived.Test.YtejdpadhemeldaaGreatDoorZ14
import Derived.Laws.Cover1
set_option maxHeartbeats 40000000
set_option linter.unusedVariables false
set_option linter.unusedSimpArgs false
namespace Go.Proofs.YtejdpadhemeldaaGreatDoor
open Go.RowKit
set_option maxRecDepth 100000
def okFrom (last : List UInt8) : List Ava → Bool
 | []=>true
 | a :: t=>avaOk a && ltB last a.type && okFrom a.type t
theorem ok_ne {a : Ava} (h : avaOk a = true) : a.type ≠ []:=by
 unfold avaOk at h
 simp only [Bool.and_eq_true,Bool.or_eq_true,decide_eq_true_eq] at h
 intro e
 have h1:=(type_none a.type).1 (by rw [h.1.1,e])
 rcases h.1.2 with h2 | h2 <;> omega
theorem lt_nil {t : List UInt8} (h : t ≠ []) : ltB [] t = true:=by
 cases t with
 | nil=>exact absurd rfl h
 | cons a t=>rfl
theorem okFrom_all : ∀ (l : List Ava) (last : List UInt8),okFrom last l = (l.all avaOk && risingB l && (match l with | []=>true | a :: _=>ltB last a.type))
 | [],last=>rfl
 | [a],last=>by simp [okFrom,risingB]
 | a :: b :: t,last=>by
  have h:=okFrom_all (b :: t) a.type
  unfold okFrom
  rw [h]
  simp only [List.all_cons,risingB]
  cases avaOk a <;> cases avaOk b <;> cases t.all avaOk <;> cases ltB a.type b.type <;> cases risingB (b :: t) <;> cases ltB last a.type <;> rfl
theorem formedA_ok (l : List Ava) : formedA l = (decide (1 ≤ l.length) && decide (l.length ≤ 3) && okFrom [] l):=by
 rw [okFrom_all]
 unfold formedA
 cases l with
 | nil=>rfl
 | cons a t=>
  simp only [List.all_cons]
  cases h : avaOk a with
  | false=>simp
  | true=>
   rw [lt_nil (ok_ne h)]
   simp [Bool.and_assoc]
theorem normE_zero {n v : List UInt8} (h : (typeB n).2 = 1 ∨ (typeB n).2 = 3) : (normE n v).2 = if (normB (typeB n).2 v).isSome then 0 else 2:=by
 unfold normE normB
 rw [if_neg (by omega),if_neg (by omega)]
 by_cases hv : v = [] ∨ 200 < v.length
 ·rw [if_pos hv,if_pos hv];rfl
 ·rw [if_neg hv,if_neg hv]
  rcases h with h | h
  ·rw [h]
   simp only [normP,textN]
   by_cases ht : joinSp (wordsB (lowerB v)) = [] ∨ (0 : UInt8) ∈ joinSp (wordsB (lowerB v))
   ·have h2 : ¬ (joinSp (wordsB (lowerB v)) ≠ [] ∧ (0 : UInt8) ∉ joinSp (wordsB (lowerB v))):=by
     rintro ⟨h3,h4⟩
     rcases ht with ht | ht
     ·exact h3 ht
     ·exact h4 ht
    simp [h2,ht]
   ·have h2 : joinSp (wordsB (lowerB v)) ≠ [] ∧ (0 : UInt8) ∉ joinSp (wordsB (lowerB v)):=⟨fun e=>ht (.inl e),fun e=>ht (.inr e)⟩
    simp [h2]
  ·rw [h]
   cases hb : intB v <;> simp [normP,hb]
theorem less_lt : ∀ a b : List UInt8,Op.bytesLess a b = ltB a b
 | [],[]=>rfl
 | [],_ :: _=>rfl
 | _ :: _,[]=>rfl
 | a :: s,b :: t=>by
  rw [Op.bytesLess,ltB,less_lt s t]
  by_cases h1 : a.toNat < b.toNat
  ·have : a < b:=h1
   simp [h1,this]
  ·have h2 : ¬ a < b:=h1
   by_cases h3 : b.toNat < a.toNat
   ·have h4 : ¬ a = b:=fun e=>by rw [e] at h3;omega
    simp [h1,h2,h3,h4]
   ·have h4 : a = b:=UInt8.toNat_inj.1 (by omega)
    simp [h4]
theorem leq_no {a b : List UInt8} (h : ltB b a = true) : Op.bytesLess a b = false ∧ (a == b) = false:=by
 refine ⟨by rw [less_lt];exact ltB_asymm _ _ h,?_⟩
 rw [beq_eq_false_iff_ne]
 intro e
 rw [e,ltB_irrefl] at h
 cases h
theorem leq_yes {a b : List UInt8} (h : ltB b a = false) : Op.bytesLess a b = true ∨ (Op.bytesLess a b = false ∧ (a == b) = true):=by
 rw [less_lt]
 cases h2 : ltB a b with
 | true=>exact .inl rfl
 | false=>exact .inr ⟨rfl,by rw [ltB_tri _ _ h2 h];exact beq_self_eq_true _⟩
theorem formed_any {S : Nat → Prop} {A : Option Addr} {n c : Nat} {l : List Ava} {w : World} (hG : Gl w) (h : Row Elem.ava S w A n c l) (hb : ∀ a ∈ l,a.type.length ≤ 4000000) :
 Calls Tryz.prog 104 #[.slice A n c] w fun e w'=>e = .returned (.bool (formedA l)) ∧ Ext w w':=by
 have HG:=hid hG
 have HR:=hid h
 have HB:=hid hb
 have hl:=h.len
 have HF:=hid (formedA_ok l)
 clear hG h hb
 by_cases h0 : n = 0
 ·have HE : Hid (formedA l = false):=by show _ = _;rw [HF.out,← hl,h0];rfl
  have t0 : ((n : Int) == 0) = true:=by rw [h0];rfl
  clear h0 hl
  go_enter Tryz.func104,Tryz.ntmps104
  go_wp2
  go_ret
  exact ⟨by rw [HE.out];rfl,Ext.refl _⟩
 ·have t0 : ((n : Int) == 0) = false:=by rw [beq_eq_false_iff_ne];omega
  by_cases h3 : 3 < n
  ·have HE : Hid (formedA l = false):=by show _ = _;rw [HF.out,← hl,decide_eq_false (show ¬ n ≤ 3 by omega)];simp
   have t3 : 3 < (n : Int):=by omega
   clear h0 hl h3
   go_enter Tryz.func104,Tryz.ntmps104
   go_wp2
   go_ret
   exact ⟨by rw [HE.out];rfl,Ext.refl _⟩
  ·have t3 : decide (3 < (n : Int)) = false:=by rw [decide_eq_false_iff_not];omega
   have HE : Hid (formedA l = okFrom [] l):=by show _ = _;rw [HF.out,← hl,decide_eq_true (show 1 ≤ n by omega),decide_eq_true (show n ≤ 3 by omega)];rfl
   have hn : n ≤ 3:=by omega
   clear h3 HF hl
   go_enter Tryz.func104,Tryz.ntmps104
   go_wp2
   go_loopw [3,20] (fun v i wr=>∃ (j : Nat) (last : List UInt8),j ≤ n ∧ i = .int .i64 j ∧ v = .string (str last) ∧ Hid (okFrom last (l.drop j) = okFrom [] l) ∧ Hid (Ext w wr)) (fun _ i _=>n - (intOf i).toNat)
   case atStart=>exact ⟨0,[],by omega,rfl,rfl,rfl,Ext.refl _⟩
   case round=>
    obtain ⟨j,last,hj,rfl,rfl,HO,HX⟩:=hrel
    by_cases hlt : j < n
    ·obtain ⟨b,o,x,rfl,hx,e1,e2⟩:=ava_at (HR.out.ext HX.out) hlt
     have hd : Hid (l.drop j = x :: l.drop (j + 1)):=by
      show _ = _
      obtain ⟨h1,h2⟩:=List.getElem?_eq_some_iff.1 hx
      rw [List.drop_eq_getElem_cons h1,h2]
     have hxs:=hid (HB.out x (List.mem_of_getElem? hx))
     clear hx
     have HT : ∀ w,Calls Tryz.prog 46 #[.string (str x.type)] w (TypeSays w x.type):=fun w=>by
      have:=type_any (str x.type) w (by have:=hxs.out;rw [str_size];simp only [maxLen];omega)
      rwa [bys_str] at this
     have HAV : Hid (avaOk x = (decide ((typeB x.type).1 = x.type) && (decide ((typeB x.type).2 = 1) || decide ((typeB x.type).2 = 3)) && (normB (typeB x.type).2 x.val).isSome)):=rfl
     have HNE : Hid ((typeB x.type).2 = 1 ∨ (typeB x.type).2 = 3 → (normE x.type x.val).2 = if (normB (typeB x.type).2 x.val).isSome then 0 else 2):=normE_zero
     have HNA : Hid ((typeB x.type).2 = 1 ∨ (typeB x.type).2 = 3 → ∀ w,Gl w → Calls Tryz.prog 84 #[.string (str x.type),.string (str x.val)] w (NormSays w x.type x.val)):=fun h w hG=>by
      have:=normal_any (str x.type) (str x.val) w hG (by have:=hxs.out;rw [str_size];exact this) (by rw [bys_str];omega)
      rwa [bys_str,bys_str] at this
     have HST : Hid (okFrom last (x :: l.drop (j + 1)) = (avaOk x && ltB last x.type && okFrom x.type (l.drop (j + 1)))):=rfl
     rw [← hd.out] at HST
     unfold TypeSays at HT
     obtain ⟨p,hp⟩ : ∃ p,p = typeB x.type:=⟨_,rfl⟩
     rw [← hp] at HT HAV HNE HNA
     clear hp
     obtain ⟨t,k⟩:=p
     simp only at HT HAV HNE HNA
     by_cases ht : t = x.type
     ·subst ht
      by_cases hk : k = 1 ∨ k = 3
      ·have HNC:=HNA.out hk
       unfold NormSays at HNC
       have HE1 : Hid ((normE x.type x.val).2 = if (normB k x.val).isSome then 0 else 2):=HNE.out hk
       generalize normE x.type x.val = q at *
       obtain ⟨nv,ne⟩:=q
       simp only at HNC HE1
       have hk2 : ((k : Int) != 1) = false ∨ (((k : Int) != 1) = true ∧ ((k : Int) != 3) = false):=by
        rcases hk with h | h
        ·left;rw [h];rfl
        ·right;rw [h];exact ⟨rfl,rfl⟩
       clear HNA HNE
       cases hlt2 : ltB last x.type with
       | false=>
        have HF : Hid (okFrom last (l.drop j) = false):=by show _ = _;rw [HST.out,hlt2,Bool.and_false,Bool.false_and]
        rw [HO.out] at HF
        rcases leq_yes hlt2 with q1 | ⟨q1,q2⟩
        all_goals
         clear hlt2
         rcases hk2 with k1 | ⟨k1,k2⟩
         all_goals
          go_wp2_with (first
           | (go_at_call 46;(with_reducible refine (HT _).mono ?_);rintro e w1 ⟨rfl,hx1⟩;have HX1:=hid hx1;have p0:=cell_later (box_a wr #[.string (str x.type),.string (str x.val)] 143 0) _ hx1;have p1:=cell_later (box_a wr #[.string (str x.type),.string (str x.val)] 143 1) _ hx1;clear hx1)
           )
          go_ret
          exact ⟨by rw [HE.out,HF.out];rfl,HX.out.trans ((Ext.alloc _ _).trans HX1.out)⟩
       | true=>
        obtain ⟨q1,q2⟩:=leq_no hlt2
        cases hnb : (normB k x.val).isSome with
        | false=>
         have HN2 : Hid (ne = 2):=by show _ = _;rw [HE1.out,hnb];rfl
         have HF : Hid (okFrom last (l.drop j) = false):=by show _ = _;rw [HST.out,HAV.out,hnb,Bool.and_false,Bool.false_and,Bool.false_and]
         rw [HO.out] at HF
         have e3 : (ne != 0) = true:=by rw [HN2.out];rfl
         clear hlt2 hnb HAV HST
         rcases hk2 with k1 | ⟨k1,k2⟩
         all_goals
          go_wp2_with (first
           | (go_at_call 46;(with_reducible refine (HT _).mono ?_);rintro e w1 ⟨rfl,hx1⟩;have HX1:=hid hx1;have p0:=cell_later (box_a wr #[.string (str x.type),.string (str x.val)] 143 0) _ hx1;have p1:=cell_later (box_a wr #[.string (str x.type),.string (str x.val)] 143 1) _ hx1;clear hx1)
           | (go_at_call 84;(with_reducible refine (HNC _ (HG.out.ext (HX.out.trans ((Ext.alloc _ _).trans HX1.out)))).mono ?_);rintro e w2 ⟨rfl,hx2⟩;have HX2:=hid hx2;clear hx2)
           )
          go_ret
          exact ⟨by rw [HE.out,HF.out];rfl,HX.out.trans ((Ext.alloc _ _).trans (HX1.out.trans HX2.out))⟩
        | true=>
         have e3 : (ne != 0) = false:=by rw [HE1.out,hnb];rfl
         have HF : Hid (okFrom x.type (l.drop (j + 1)) = okFrom [] l):=by
          show _ = _
          rw [← HO.out,HST.out,HAV.out,hnb,hlt2,decide_eq_true rfl]
          rcases hk with h | h <;> simp [h]
         clear hlt2 hnb HAV HST hk
         rcases hk2 with k1 | ⟨k1,k2⟩
         all_goals
          go_wp2_with (first
           | (go_at_call 46;(with_reducible refine (HT _).mono ?_);rintro e w1 ⟨rfl,hx1⟩;have HX1:=hid hx1;have p0:=cell_later (box_a wr #[.string (str x.type),.string (str x.val)] 143 0) _ hx1;have p1:=cell_later (box_a wr #[.string (str x.type),.string (str x.val)] 143 1) _ hx1;clear hx1)
           | (go_at_call 84;(with_reducible refine (HNC _ (HG.out.ext (HX.out.trans ((Ext.alloc _ _).trans HX1.out)))).mono ?_);rintro e w2 ⟨rfl,hx2⟩;have HX2:=hid hx2;clear hx2)
           )
          exact ⟨⟨j + 1,x.type,by omega,by go_num,rfl,HF,HX.out.trans ((Ext.alloc _ _).trans (HX1.out.trans HX2.out))⟩,by simp [intOf];omega⟩
      ·have hk1 : ((k : Int) != 1) = true:=by rw [bne_iff_ne];omega
       have hk2 : ((k : Int) != 3) = true:=by rw [bne_iff_ne];omega
       have HF : Hid (okFrom last (l.drop j) = false):=by
        show _ = _
        rw [HST.out,HAV.out,decide_eq_false (show ¬ k = 1 by omega),decide_eq_false (show ¬ k = 3 by omega)]
        simp
       rw [HO.out] at HF
       clear hk HNA HNE HAV HST
       go_wp2_with (first
        | (go_at_call 46;(with_reducible refine (HT _).mono ?_);rintro e w1 ⟨rfl,hx1⟩;have HX1:=hid hx1;have p0:=cell_later (box_a wr #[.string (str x.type),.string (str x.val)] 143 0) _ hx1;have p1:=cell_later (box_a wr #[.string (str x.type),.string (str x.val)] 143 1) _ hx1;clear hx1)
        )
       go_ret
       exact ⟨by rw [HE.out,HF.out];rfl,HX.out.trans ((Ext.alloc _ _).trans HX1.out)⟩
     ·have te : (t == x.type) = false:=by rw [beq_eq_false_iff_ne];exact ht
      have HF : Hid (okFrom last (l.drop j) = false):=by show _ = _;rw [HST.out,HAV.out,decide_eq_false ht];simp
      rw [HO.out] at HF
      clear ht HNA HNE HAV HST
      go_wp2_with (first
       | (go_at_call 46;(with_reducible refine (HT _).mono ?_);rintro e w1 ⟨rfl,hx1⟩;have HX1:=hid hx1;have p0:=cell_later (box_a wr #[.string (str x.type),.string (str x.val)] 143 0) _ hx1;have p1:=cell_later (box_a wr #[.string (str x.type),.string (str x.val)] 143 1) _ hx1;clear hx1)
       )
      go_ret
      exact ⟨by rw [HE.out,HF.out];rfl,HX.out.trans ((Ext.alloc _ _).trans HX1.out)⟩
    ·obtain rfl : j = n:=by omega
     have HF : Hid (okFrom [] l = true):=by show _ = _;rw [← HO.out,List.drop_of_length_le (Nat.le_of_eq HR.out.len.symm)];rfl
     go_wp2
     go_ret
     exact ⟨by rw [HE.out,HF.out];rfl,HX.out⟩
def escI (z : Int) (b0 bL sp : Bool) : Bool:=((z == 32) && (b0 || bL)) || ((z == 35) && b0) || sp
def chunkW (c : UInt8) (b0 bL : Bool) : List UInt8:=
 if escI (c.toNat : Int) b0 bL (specB c) = true then [92,c] else if (c.toNat : Int) < 32 ∨ 126 < (c.toNat : Int) then [92,digitB (c.toNat / 16),digitB (c.toNat % 16)] else [c]
theorem writeF_cons (b0 : Bool) (c : UInt8) (t : List UInt8) : writeF b0 (c :: t) = chunkW c b0 t.isEmpty ++ writeF false t:=by
 have e32 : ((c.toNat : Int) == 32) = (c == 32):=by
  by_cases h : c = 32
  ·rw [show ((c.toNat : Int) == 32) = true from byte_is (k:=32) (by decide) h,h];rfl
  ·rw [show ((c.toNat : Int) == 32) = false from byte_isnt (k:=32) h,beq_eq_false_iff_ne.2 h]
 have e35 : ((c.toNat : Int) == 35) = (c == 35):=by
  by_cases h : c = 35
  ·rw [show ((c.toNat : Int) == 35) = true from byte_is (k:=35) (by decide) h,h];rfl
  ·rw [show ((c.toNat : Int) == 35) = false from byte_isnt (k:=35) h,beq_eq_false_iff_ne.2 h]
 have eq : ((c.toNat : Int) < 32 ∨ 126 < (c.toNat : Int)) ↔ (c.toNat < 32 ∨ 126 < c.toNat):=by omega
 unfold chunkW escI
 rw [e32,e35]
 simp only [eq]
 rfl
theorem hexd_at {k : Nat} (h : k < 16) : (bys ⟨#[48,49,50,51,52,53,54,55,56,57,97,98,99,100,101,102]⟩)[k]? = some (digitB k):=by
 have hall : ∀ k < 16,(bys ⟨#[48,49,50,51,52,53,54,55,56,57,97,98,99,100,101,102]⟩)[k]? = some (digitB k):=by decide
 exact hall k h
theorem and_low (x : UInt8) : bits BinOp.and IntKind.u8 (x.toNat : Int) 15 = ((x.toNat % 16 : Nat) : Int):=by
 obtain ⟨n,rfl⟩ : ∃ n : Fin 256,x = UInt8.ofFin n:=⟨x.toFin,rfl⟩
 revert n
 decide +kernel
theorem sl_lit (w : World) (xs : List UInt8) (n : Nat) (hn : n = xs.length) (hm : n ≤ maxLen) : Sl (w.alloc (.cells (xs.map bv).toArray 5)) (some ⟨w.heap.size,0,none⟩) n n xs:=Sl.of_own (own_new w xs n hn hm 0 (Nat.zero_le _))
theorem sl_esc (w : World) (x : UInt8) : Sl (w.alloc (.cells #[.int .u8 92,.int .u8 (x.toNat : Int)] 5)) (some ⟨w.heap.size,0,none⟩) 2 2 [92,x]:=sl_lit w [92,x] 2 rfl (by simp [maxLen])
theorem lit_at3 {w : World} {o : Oper} {a : Act} {K : Act → World → Prop} {Q : Exit → Act → World → Prop} (x y : Operand) (ho : o.op = .buildSlice 105 3 #[(0,.const (.int .u8 92)),(1,x),(2,y)]) (p q : UInt8) (hx : a.eval x = .int .u8 (p.toNat : Int)) (hy : a.eval y = .int .u8 (q.toNat : Int))
 (h : ∀ w',Ext w w' → Sl w' (some ⟨w.heap.size,0,none⟩) 3 3 [92,p,q] → K (a.put o.dst (.slice (some ⟨w.heap.size,0,none⟩) 3 3)) w') : o.wp Tryz.prog a w K Q:=by
 have hr : (execOp a.eval o).run Tryz.prog w = .ok (.value (.slice (some ⟨w.heap.size,0,none⟩) 3 3)) (w.alloc (.cells #[.int .u8 92,.int .u8 (p.toNat : Int),.int .u8 (q.toNat : Int)] 5)):=by
  unfold execOp
  simp only [ho,List.map_toArray,List.map_cons,List.map_nil,hx,hy]
  kernel_rfl
 unfold Oper.wp
 rw [hr]
 exact h _ (Ext.alloc _ _) (sl_lit w [92,p,q] 3 rfl (by simp [maxLen]))
theorem writeall_kept {B b : Nat} {xs : List UInt8} (s : ByteArray) (w : World) (hI : IsB B b xs w) (hs : s.size ≤ 4000000) (hl : xs.length ≤ 100000000000000) :
 Calls Tryz.prog 107 #[.pointer (some ⟨b,0,none⟩),.string s] w fun e w'=>e = .returned (.tuple #[]) ∧ IsB B b (xs ++ writeF true (bys s)) w' ∧ Kept B b w w':=by
 have Hs:=hid hs
 have HI0:=hid hI
 clear hI
 go_enter Tryz.func107,Tryz.ntmps107
 go_wp2
 go_loopw [9] (fun i wr=>∃ (j : Nat) (acc : List UInt8),j ≤ s.size ∧ i = .int .i64 j ∧ acc.length ≤ 3 * j ∧ Hid (IsB B b (xs ++ acc) wr ∧ Kept B b w wr) ∧ Hid (acc ++ writeF (decide (j = 0)) ((bys s).drop j) = writeF true (bys s))) (fun i _=>s.size - (intOf i).toNat)
 case atStart=>exact ⟨0,[],by omega,rfl,by simp,⟨by rw [List.append_nil];exact HI0,Kept.refl _ _ _⟩,rfl⟩
 case round=>
  obtain ⟨j,acc,hj,rfl,hacc,HI,HR⟩:=hrel
  by_cases hlt : j < s.size
  ·obtain ⟨x,hx⟩:=at_some hlt
   have gx:=bys_get hx hlt
   have hd:=drop_at hx
   have hx1 : (x.toNat : Int) < 256:=by have:=x.toNat_lt;omega
   have hx0 : 0 ≤ (x.toNat : Int):=by omega
   have hemp : ((bys s).drop (j + 1)).isEmpty = ((j : Int) == (s.size : Int) - 1):=by
    rw [Bool.eq_iff_iff,List.isEmpty_iff,beq_iff_eq,List.drop_eq_nil_iff,bys_len]
    omega
   have h0 : decide (j = 0) = ((j : Int) == 0):=by rw [Bool.eq_iff_iff,beq_iff_eq,decide_eq_true_eq];omega
   have hst : acc ++ chunkW x ((j : Int) == 0) ((j : Int) == (s.size : Int) - 1) ++ writeF false ((bys s).drop (j + 1)) = writeF true (bys s):=by
    rw [← HR.out,hd,writeF_cons,hemp,h0,List.append_assoc]
   have hj1 : decide (j + 1 = 0) = false:=rfl
   rw [← hj1] at hst
   have HE : Hid (escI (x.toNat : Int) ((j : Int) == 0) ((j : Int) == (s.size : Int) - 1) (specB x) = true → (acc ++ [92,x]) ++ writeF (decide (j + 1 = 0)) ((bys s).drop (j + 1)) = writeF true (bys s)):=by
    intro h;rw [← hst];unfold chunkW;rw [if_pos h]
   have HP : Hid (escI (x.toNat : Int) ((j : Int) == 0) ((j : Int) == (s.size : Int) - 1) (specB x) = false → ¬ ((x.toNat : Int) < 32 ∨ 126 < (x.toNat : Int)) → (acc ++ [x]) ++ writeF (decide (j + 1 = 0)) ((bys s).drop (j + 1)) = writeF true (bys s)):=by
    intro h k;rw [← hst];unfold chunkW;rw [if_neg (by rw [h];decide),if_neg k]
   have HX : Hid (escI (x.toNat : Int) ((j : Int) == 0) ((j : Int) == (s.size : Int) - 1) (specB x) = false → ((x.toNat : Int) < 32 ∨ 126 < (x.toNat : Int)) → (acc ++ [92,digitB (x.toNat / 16),digitB (x.toNat % 16)]) ++ writeF (decide (j + 1 = 0)) ((bys s).drop (j + 1)) = writeF true (bys s)):=by
    intro h k;rw [← hst];unfold chunkW;rw [if_neg (by rw [h];decide),if_pos k]
   clear hx hd hemp h0 hst hj1
   cases hsp : specB x with
   | true=>
    have HM:=hid ((mem_spec x).1 hsp)
    have HE' : Hid ((acc ++ [92,x]) ++ writeF (decide (j + 1 = 0)) ((bys s).drop (j + 1)) = writeF true (bys s)):=HE.out (by unfold escI;rw [hsp];simp)
    clear hsp HE HP HX
    generalize hq32 : ((x.toNat : Int) == 32) = b32 at *
    generalize hq35 : ((x.toNat : Int) == 35) = b35 at *
    generalize hq0 : ((j : Int) == 0) = b0 at *
    generalize hqL : ((j : Int) == (s.size : Int) - 1) = bL at *
    cases b32 <;> cases b35 <;> cases b0 <;> cases bL
    all_goals
     go_wp2_with (first
      | (go_at_call 133;(with_reducible refine (indexbyte_yes _ _ x (u8_back _) _ HM.out).mono ?_);rintro e w4 ⟨⟨i,rfl⟩,rfl⟩;have hi0 : 0 ≤ (i : Int):=by omega)
      | (go_at_call 134;(with_reducible refine (write_kept _ 2 2 [92,x] (HI.out.1.ext (Ext.alloc _ _)) (sl_esc _ x) (fun a ha=>by injection ha with ha;subst ha;have:=HI.out.1.lt;show _ ≠ _;simp;omega) (by simp;omega)).mono ?_);rintro e w5 ⟨rfl,hi5,hx5⟩;have HI5:=hid hi5;have HX5:=hid hx5;clear hi5 hx5))
     exact ⟨⟨j + 1,acc ++ [92,x],by omega,by go_num,by simp;omega,⟨by rw [← List.append_assoc];exact HI5.out,Kept.trans HI.out.2 (Kept.trans (kept_ext (Ext.alloc _ _) HI.out.1.le) HX5.out)⟩,HE'⟩,by simp [intOf];omega⟩
   | false=>
    have HM : Hid (x ∉ ([44,43,34,92,60,62,59] : List UInt8)):=fun h=>by have:=(mem_spec x).2 h;rw [hsp] at this;cases this
    rw [hsp] at HE HP HX
    clear hsp
    generalize hq32 : ((x.toNat : Int) == 32) = b32 at *
    generalize hq35 : ((x.toNat : Int) == 35) = b35 at *
    generalize hq0 : ((j : Int) == 0) = b0 at *
    generalize hqL : ((j : Int) == (s.size : Int) - 1) = bL at *
    have hE2 : ∀ b,escI (x.toNat : Int) b0 bL false = b ↔ ((b32 && (b0 || bL)) || (b35 && b0)) = b:=by intro b;unfold escI;rw [hq32,hq35,Bool.or_false]
    rw [hE2] at HE HP HX
    clear hE2
    have hu : (((x.toNat : Int) < 32 ∨ 126 < (x.toNat : Int)) ∧ ((x.toNat : Int) < 32 ∨ (¬ (x.toNat : Int) < 32 ∧ 126 < (x.toNat : Int)))) ∨ (¬ ((x.toNat : Int) < 32 ∨ 126 < (x.toNat : Int)) ∧ ¬ (x.toNat : Int) < 32 ∧ ¬ 126 < (x.toNat : Int)):=by omega
    cases b32 <;> cases b35 <;> cases b0 <;> cases bL
    all_goals first
     | (have HE':=hid (HE.out rfl)
        clear HE HP HX hu
        go_wp2_with (first
         | (go_at_call 134;(with_reducible refine (write_kept _ 2 2 [92,x] (HI.out.1.ext (Ext.alloc _ _)) (sl_esc _ x) (fun a ha=>by injection ha with ha;subst ha;have:=HI.out.1.lt;show _ ≠ _;simp;omega) (by simp;omega)).mono ?_);rintro e w5 ⟨rfl,hi5,hx5⟩;have HI5:=hid hi5;have HX5:=hid hx5;clear hi5 hx5))
        exact ⟨⟨j + 1,acc ++ [92,x],by omega,by go_num,by simp;omega,⟨by rw [← List.append_assoc];exact HI5.out,Kept.trans HI.out.2 (Kept.trans (kept_ext (Ext.alloc _ _) HI.out.1.le) HX5.out)⟩,HE'⟩,by simp [intOf];omega⟩)
     | (rcases hu with ⟨hu,hv⟩ | ⟨hu,hu1,hu2⟩
        ·have HX':=hid (HX.out rfl hu)
         clear HE HP HX hu
         obtain ⟨k1,hk1⟩ : ∃ k,k = x.toNat / 16:=⟨_,rfl⟩
         obtain ⟨k2,hk2⟩ : ∃ k,k = x.toNat % 16:=⟨_,rfl⟩
         have hl1 : k1 < 16:=by omega
         have hl2 : k2 < 16:=by omega
         have g1:=bys_get (hexd_at hl1) hl1
         have g2:=bys_get (hexd_at hl2) hl2
         have hsh : (x.toNat : Int) / 16 = (k1 : Int):=by omega
         have hand:=and_low x
         rw [← hk1,← hk2] at HX'
         rw [← hk2] at hand
         have hk1' : (k1 : Int) < 16:=by omega
         have hk2' : (k2 : Int) < 16:=by omega
         generalize digitB k1 = d1 at *
         generalize digitB k2 = d2 at *
         clear hk1 hk2
         rcases hv with hv | ⟨hv,hv2⟩
         all_goals
          go_wp2_with (first
           | (go_at_call 133;(with_reducible refine (indexbyte_no _ _ x (u8_back _) _ HM.out).mono ?_);rintro e w4 ⟨rfl,rfl⟩))
          refine wp_region_planB B (.read 0 (.read 1 (.read 2 (.read 3 (.read 4 (.read 5 (.read 6 (.main 7 (.main 8 .done))))))))) (by kernel_rfl) (by kernel_rfl) ?_
          intro wD hxD
          have XB : Hid (Below B wD wD):=Below.refl _ _
          have HID:=hid (HI.out.1.ext hxD)
          have HXD:=hid (Kept.trans HI.out.2 (kept_ext hxD HI.out.1.le))
          repeat' (first
           | ((first | refine walksB_move rfl rfl ?_ | refine walksB_assign rfl rfl ?_ | refine walksB_skip rfl rfl ?_);simp only [Act.put,Act.eval,evs])
           | (refine walksB_unwanted rfl rfl ?_;simp only [Act.put,evp])
           | (refine walksB_read (v:=?_) rfl rfl (fun w' hE=>?_) ?_;rotate_left 1;(· ((try (have hEx:=Below.trans (Hid.out XB) hE));go_simp;(try go_bits);with_reducible rfl));simp only [Act.put,evp])
           | (refine walksB_main rfl rfl (fun K hK=>?_);(first | (refine lit_at3 _ _ rfl d1 d2 rfl rfl ?_;intro w8 hx8 hs8;have hx8':=Below.mono hx8 HID.out.le;have HIE:=hid (HID.out.ext hx8);have HK8 : Hid (Kept B b wD w8):=kept_ext hx8 HID.out.le;have HS8:=hid hs8;have HA8 : Hid (∀ a,some (⟨wD.heap.size,0,none⟩ : Addr) = some a → a.block ≠ b):=(fun a ha=>by injection ha with ha;subst ha;have:=HID.out.lt;show _ ≠ _;simp;omega);clear hx8 hs8;have XB':=hid (Below.trans (Hid.out XB) (hx8'));clear XB;have XB:=XB';clear XB'));refine hK _ _ (by first | assumption | exact Below.refl _ _ | exact Below.mono (Ext.alloc _ _) (Hid.out HSW) | exact Below.setCell (p:=⟨_,_,_⟩) (Below.refl _ _) (Nat.le_refl _) _) ?_;clear hK K;try simp only [Act.put,evp])
           | (refine walksB_alt ?_ ?_)
           | (refine walksB_main rfl rfl (fun K hK=>?_);go_wp2_with ((go_at_call 134;(with_reducible refine (write_kept _ 3 3 [92,d1,d2] HIE.out HS8.out HA8.out (by simp;omega)).mono ?_);rintro e w9 ⟨rfl,hi9,hk9⟩;have HI9:=hid hi9;have HK9:=hid (Kept.trans HK8.out hk9);have hx9:=hk9.below;clear hi9 hk9;have XB':=hid (Below.trans (Hid.out XB) (hx9));clear XB;have XB:=XB';clear XB'));refine hK _ _ (by first | assumption | exact Below.refl _ _ | exact Below.mono (Ext.alloc _ _) (Hid.out HSW) | exact Below.setCell (p:=⟨_,_,_⟩) (Below.refl _ _) (Nat.le_refl _) _) ?_;clear hK K;try simp only [Act.put,evp]))
          refine walksB_done ?_
          go_wp2
          exact ⟨⟨j + 1,acc ++ [92,d1,d2],by omega,by go_num,by simp;omega,⟨by rw [← List.append_assoc];exact HI9.out,Kept.trans HXD.out HK9.out⟩,HX'⟩,by simp [intOf];omega⟩
        ·have HP':=hid (HP.out rfl hu)
         clear HE HP HX hu
         go_wp2_with (first
          | (go_at_call 133;(with_reducible refine (indexbyte_no _ _ x (u8_back _) _ HM.out).mono ?_);rintro e w4 ⟨rfl,rfl⟩)
          | (go_at_call 106;(with_reducible refine (writeByte_kept x HI.out.1 (by simp;omega)).mono ?_);rintro e w5 ⟨rfl,hi5,hx5⟩;have HI5:=hid hi5;have HX5:=hid hx5;clear hi5 hx5))
         exact ⟨⟨j + 1,acc ++ [x],by omega,by go_num,by simp;omega,⟨by rw [← List.append_assoc];exact HI5.out,Kept.trans HI.out.2 HX5.out⟩,HP'⟩,by simp [intOf];omega⟩)
  ·obtain rfl : j = s.size:=by omega
   have HF : Hid (writeF true (bys s) = acc):=by show _ = _;rw [← HR.out,drop_none (Nat.le_refl _)];simp [writeF]
   go_wp2
   go_end0
   exact ⟨rfl,by rw [HF.out];exact HI.out.1,HI.out.2⟩
theorem lit_wp3 {w : World} {o : Oper} {a : Act} {K : Act → World → Prop} {Q : Exit → Act → World → Prop} (x y : Operand) (ho : o.op = .buildSlice 105 3 #[(0,.const (.int .u8 92)),(1,x),(2,y)]) (p q : UInt8) (hx : a.eval x = .int .u8 (p.toNat : Int)) (hy : a.eval y = .int .u8 (q.toNat : Int))
 (h : ∀ A w',Ext w w' → Sl w' A 3 3 [92,p,q] → K (a.put o.dst (.slice A 3 3)) w') : o.wp Tryz.prog a w K Q:=by
 have hr : (execOp a.eval o).run Tryz.prog w = .ok (.value (.slice (some ⟨w.heap.size,0,none⟩) 3 3)) (w.alloc (.cells #[.int .u8 92,.int .u8 (p.toNat : Int),.int .u8 (q.toNat : Int)] 5)):=by
  unfold execOp
  simp only [ho,List.map_toArray,List.map_cons,List.map_nil,hx,hy]
  kernel_rfl
 unfold Oper.wp
 rw [hr]
 exact h _ _ (Ext.alloc _ _) (sl_lit w [92,p,q] 3 rfl (by simp [maxLen]))
theorem rvalue_any (s : ByteArray) (w : World) (hs : s.size ≤ 4000000) : Calls Tryz.prog 119 #[.string s] w fun e w'=>e = .returned (.string (str (writeF true (bys s)))) ∧ Ext w w':=by
 have Hs:=hid hs
 go_enter Tryz.func119,Tryz.ntmps119
 go_wp2
 go_loopw [3,4] (fun v i wr=>∃ (j : Nat) (acc : List UInt8),j ≤ s.size ∧ i = .int .i64 j ∧ acc.length ≤ 3 * j ∧ Hid (GrowB w wr v acc) ∧ Hid (acc ++ writeF (decide (j = 0)) ((bys s).drop j) = writeF true (bys s))) (fun _ i _=>s.size - (intOf i).toNat)
 case atStart=>exact ⟨0,[],by omega,rfl,by simp,GrowB.nil (Ext.refl _),rfl⟩
 case round=>
  obtain ⟨j,acc,hj,rfl,hacc,HG,HR⟩:=hrel
  by_cases hlt : j < s.size
  ·obtain ⟨x,hx⟩:=at_some hlt
   have gx:=bys_get hx hlt
   have hd:=drop_at hx
   have hx1 : (x.toNat : Int) < 256:=by have:=x.toNat_lt;omega
   have hx0 : 0 ≤ (x.toNat : Int):=by omega
   have hemp : ((bys s).drop (j + 1)).isEmpty = ((j : Int) == (s.size : Int) - 1):=by
    rw [Bool.eq_iff_iff,List.isEmpty_iff,beq_iff_eq,List.drop_eq_nil_iff,bys_len]
    omega
   have h0 : decide (j = 0) = ((j : Int) == 0):=by rw [Bool.eq_iff_iff,beq_iff_eq,decide_eq_true_eq];omega
   have hst : acc ++ chunkW x ((j : Int) == 0) ((j : Int) == (s.size : Int) - 1) ++ writeF false ((bys s).drop (j + 1)) = writeF true (bys s):=by
    rw [← HR.out,hd,writeF_cons,hemp,h0,List.append_assoc]
   have hj1 : decide (j + 1 = 0) = false:=rfl
   rw [← hj1] at hst
   have HE : Hid (escI (x.toNat : Int) ((j : Int) == 0) ((j : Int) == (s.size : Int) - 1) (specB x) = true → (acc ++ [92,x]) ++ writeF (decide (j + 1 = 0)) ((bys s).drop (j + 1)) = writeF true (bys s)):=by
    intro h;rw [← hst];unfold chunkW;rw [if_pos h]
   have HP : Hid (escI (x.toNat : Int) ((j : Int) == 0) ((j : Int) == (s.size : Int) - 1) (specB x) = false → ¬ ((x.toNat : Int) < 32 ∨ 126 < (x.toNat : Int)) → (acc ++ [x]) ++ writeF (decide (j + 1 = 0)) ((bys s).drop (j + 1)) = writeF true (bys s)):=by
    intro h k;rw [← hst];unfold chunkW;rw [if_neg (by rw [h];decide),if_neg k]
   have HX : Hid (escI (x.toNat : Int) ((j : Int) == 0) ((j : Int) == (s.size : Int) - 1) (specB x) = false → ((x.toNat : Int) < 32 ∨ 126 < (x.toNat : Int)) → (acc ++ [92,digitB (x.toNat / 16),digitB (x.toNat % 16)]) ++ writeF (decide (j + 1 = 0)) ((bys s).drop (j + 1)) = writeF true (bys s)):=by
    intro h k;rw [← hst];unfold chunkW;rw [if_neg (by rw [h];decide),if_pos k]
   clear hx hd hemp h0 hst hj1
   cases hsp : specB x with
   | true=>
    have HSP:=hid hsp
    have HE' : Hid ((acc ++ [92,x]) ++ writeF (decide (j + 1 = 0)) ((bys s).drop (j + 1)) = writeF true (bys s)):=HE.out (by unfold escI;rw [hsp];simp)
    clear hsp HE HP HX
    go_wp2_with (first
     | (go_at_call 139;(with_reducible refine (special_any x _).mono ?_);rintro e w4 ⟨he4,rfl⟩;rw [HSP.out] at he4;subst he4)
     | (at_builtin;refine append_grow rfl _ _ rfl _ _ rfl (HG.out.later (Ext.alloc _ _)) _ 2 2 [92,x] rfl (sl_lit _ [92,x] 2 rfl (by simp [maxLen])) (by omega) ?_;intro v' w5 hg5;have HG5:=hid hg5;clear hg5))
    exact ⟨⟨j + 1,_,by omega,by go_num,by simp;omega,HG5,HE'⟩,by simp [intOf];omega⟩
   | false=>
    have HSP:=hid hsp
    clear hsp
    rw [HSP.out] at HE HP HX
    generalize hq32 : ((x.toNat : Int) == 32) = b32 at *
    generalize hq35 : ((x.toNat : Int) == 35) = b35 at *
    generalize hq0 : ((j : Int) == 0) = b0 at *
    generalize hqL : ((j : Int) == (s.size : Int) - 1) = bL at *
    have hE2 : ∀ b,escI (x.toNat : Int) b0 bL false = b ↔ ((b32 && (b0 || bL)) || (b35 && b0)) = b:=by intro b;unfold escI;rw [hq32,hq35,Bool.or_false]
    rw [hE2] at HE HP HX
    clear hE2
    have hu : (((x.toNat : Int) < 32 ∨ 126 < (x.toNat : Int)) ∧ ((x.toNat : Int) < 32 ∨ (¬ (x.toNat : Int) < 32 ∧ 126 < (x.toNat : Int)))) ∨ (¬ ((x.toNat : Int) < 32 ∨ 126 < (x.toNat : Int)) ∧ ¬ (x.toNat : Int) < 32 ∧ ¬ 126 < (x.toNat : Int)):=by omega
    cases b32 <;> cases b35 <;> cases b0 <;> cases bL
    all_goals first
     | (have HE':=hid (HE.out rfl)
        clear HE HP HX hu
        go_wp2_with (first
         | (go_at_call 139;(with_reducible refine (special_any x _).mono ?_);rintro e w4 ⟨he4,rfl⟩;rw [HSP.out] at he4;subst he4)
         | (at_builtin;refine append_grow rfl _ _ rfl _ _ rfl (HG.out.later (Ext.alloc _ _)) _ 2 2 [92,x] rfl (sl_lit _ [92,x] 2 rfl (by simp [maxLen])) (by omega) ?_;intro v' w5 hg5;have HG5:=hid hg5;clear hg5))
        exact ⟨⟨j + 1,_,by omega,by go_num,by simp;omega,HG5,HE'⟩,by simp [intOf];omega⟩)
     | (rcases hu with ⟨hu,hv⟩ | ⟨hu,hu1,hu2⟩
        ·have HX':=hid (HX.out rfl hu)
         clear HE HP HX hu
         obtain ⟨k1,hk1⟩ : ∃ k,k = x.toNat / 16:=⟨_,rfl⟩
         obtain ⟨k2,hk2⟩ : ∃ k,k = x.toNat % 16:=⟨_,rfl⟩
         have hl1 : k1 < 16:=by omega
         have hl2 : k2 < 16:=by omega
         have g1:=bys_get (hexd_at hl1) hl1
         have g2:=bys_get (hexd_at hl2) hl2
         have hsh : (x.toNat : Int) / 16 = (k1 : Int):=by omega
         have hand:=and_low x
         rw [← hk1,← hk2] at HX'
         rw [← hk2] at hand
         have hk1' : (k1 : Int) < 16:=by omega
         have hk2' : (k2 : Int) < 16:=by omega
         generalize digitB k1 = d1 at *
         generalize digitB k2 = d2 at *
         clear hk1 hk2
         rcases hv with hv | ⟨hv,hv2⟩
         all_goals
          go_wp2_with (first
           | (go_at_call 139;(with_reducible refine (special_any x _).mono ?_);rintro e w4 ⟨he4,rfl⟩;rw [HSP.out] at he4;subst he4))
          refine wp_region_planB w.heap.size (.read 0 (.read 1 (.read 2 (.read 3 (.read 4 (.read 5 (.read 6 (.main 7 (.main 8 (.read 9 .done)))))))))) (by kernel_rfl) (by kernel_rfl) ?_
          intro wD hxD
          have XB : Hid (Below w.heap.size wD wD):=Below.refl _ _
          have HGD:=hid (HG.out.later hxD)
          repeat' (first
           | ((first | refine walksB_move rfl rfl ?_ | refine walksB_assign rfl rfl ?_ | refine walksB_skip rfl rfl ?_);simp only [Act.put,Act.eval,evs])
           | (refine walksB_unwanted rfl rfl ?_;simp only [Act.put,evp])
           | (refine walksB_read (v:=?_) rfl rfl (fun w' hE=>?_) ?_;rotate_left 1;(· ((try (have hEx:=Below.trans (Hid.out XB) hE));go_simp;(try go_bits);with_reducible rfl));simp only [Act.put,evp])
           | (refine walksB_main rfl rfl (fun K hK=>?_);(first | (refine lit_wp3 _ _ rfl d1 d2 rfl rfl ?_;intro A8 w8 hx8 hs8;have hx8':=Below.mono hx8 (ext_sz HGD.out.ext);have HGE:=hid (HGD.out.later hx8);have HS8:=hid hs8;clear hx8 hs8;have XB':=hid (Below.trans (Hid.out XB) (hx8'));clear XB;have XB:=XB';clear XB') | (refine append_grow_wp _ _ rfl _ acc rfl HGE.out _ 3 3 [92,d1,d2] rfl HS8.out (by omega) ?_;intro v' w9 hg9 hb9;have HG9:=hid hg9;clear hg9;have XB':=hid (Below.trans (Hid.out XB) (hb9));clear XB;have XB:=XB';clear XB'));refine hK _ _ (by first | assumption | exact Below.refl _ _ | exact Below.mono (Ext.alloc _ _) (Hid.out HSW) | exact Below.setCell (p:=⟨_,_,_⟩) (Below.refl _ _) (Nat.le_refl _) _) ?_;clear hK K;try simp only [Act.put,evp])
           | (refine walksB_alt ?_ ?_)
           | (refine walksB_main rfl rfl (fun K hK=>?_);go_wp2_with (fail);refine hK _ _ (by first | assumption | exact Below.refl _ _ | exact Below.mono (Ext.alloc _ _) (Hid.out HSW) | exact Below.setCell (p:=⟨_,_,_⟩) (Below.refl _ _) (Nat.le_refl _) _) ?_;clear hK K;try simp only [Act.put,evp]))
          refine walksB_done ?_
          go_wp2
          exact ⟨⟨j + 1,acc ++ [92,d1,d2],by omega,by go_num,by simp;omega,HG9,HX'⟩,by simp [intOf];omega⟩
        ·have HP':=hid (HP.out rfl hu)
         clear HE HP HX hu
         go_wp2_with (first
          | (go_at_call 139;(with_reducible refine (special_any x _).mono ?_);rintro e w4 ⟨he4,rfl⟩;rw [HSP.out] at he4;subst he4)
          | (at_builtin;refine append_grow rfl _ _ rfl _ _ rfl (HG.out.later (Ext.alloc _ _)) _ 1 1 [x] rfl (sl_char _ x) (by omega) ?_;intro v' w5 hg5;have HG5:=hid hg5;clear hg5))
         exact ⟨⟨j + 1,_,by omega,by go_num,by simp;omega,HG5,HP'⟩,by simp [intOf];omega⟩)
  ·obtain rfl : j = s.size:=by omega
   have HF : Hid (writeF true (bys s) = acc):=by show _ = _;rw [← HR.out,drop_none (Nat.le_refl _)];simp [writeF]
   obtain ⟨A1,c1,rfl,hs1⟩:=HG.out.sl
   have hC:=hs1.conv wr (Ext.refl wr)
   clear hs1
   go_wp2
   go_ret
   exact ⟨by rw [HF.out];rfl,HG.out.ext⟩
theorem value_any (s : ByteArray) (w : World) (hs : s.size ≤ 4000000) : Calls Tryz.prog 130 #[.string s] w (ValSays w (valueB (bys s))):=by
 have Hs:=hid hs
 by_cases hz : s.size = 0
 ·have e1:=emp_yes hz
  have HV : Hid (valueB (bys s) = readF [] (bys s)):=by rw [str_emp hz];rfl
  clear hz
  go_enter Tryz.func130,Tryz.ntmps130
  go_wp2
  go_loopw [5] (fun i wr=>∃ (j : Nat) (acc : List UInt8),j ≤ s.size ∧ i = .int .i64 j ∧ acc.length ≤ j ∧ Hid (IsB w.heap.size w.heap.size acc wr) ∧ Hid (readF acc ((bys s).drop j) = readF [] (bys s)) ∧ Hid (Below w.heap.size w wr)) (fun i _=>s.size - (intOf i).toNat)
  case atStart=>exact ⟨0,[],by omega,rfl,by simp,isB_new w,by simp [Hid],Ext.alloc _ _⟩
  case round=>
   obtain ⟨j,acc,hj,rfl,hacc,HI,HR,HX⟩:=hrel
   by_cases hlt : j < s.size
   ·obtain ⟨x,hx⟩:=at_some hlt
    have gx:=bys_get hx hlt
    have hd:=hid (drop_at hx)
    clear hx
    by_cases h92 : x = 92
    ·have t92 : ((x.toNat : Int) != 92) = false:=by rw [h92];rfl
     by_cases hl1 : j + 1 < s.size
     ·have hl1' : (j : Int) + 1 < (s.size : Int):=by omega
      obtain ⟨y,hy⟩:=at_some hl1
      have gy:=bys_get hy hl1
      have hd1:=drop_at hy
      clear hy
      cases hsp : spec2 y with
      | true=>
       have HM:=hid ((mem_spec2 y).1 hsp)
       have HH : Hid (readF (acc ++ [y]) ((bys s).drop (j + 1 + 1)) = readF [] (bys s)):=by show _ = _;rw [← HR.out,hd.out,hd1,h92,readF_spec hsp]
       clear h92 hsp hd1
       go_wp2_with (first
        | (go_at_call 133;(with_reducible refine (indexbyte_yes _ _ y (u8_back _) _ HM.out).mono ?_);rintro e w4 ⟨⟨i,rfl⟩,rfl⟩;have hi0 : 0 ≤ (i : Int):=by omega)
        | (go_at_call 106;(with_reducible refine (writeByte_any y HI.out (by omega)).mono ?_);rintro e w5 ⟨rfl,hi5,hx5⟩;have HI5:=hid hi5;have HX5:=hid hx5;clear hi5 hx5))
       exact ⟨⟨j + 2,acc ++ [y],by omega,by go_num,by simp;omega,HI5,HH,Below.trans HX.out HX5.out⟩,by simp [intOf];omega⟩
      | false=>
       have HM : Hid (y ∉ ([44,43,34,92,60,62,59,35,61,32] : List UInt8)):=fun h=>by have:=(mem_spec2 y).2 h;rw [hsp] at this;cases this
       by_cases hl2 : j + 2 < s.size
       ·have hl2' : (j : Int) + 2 < (s.size : Int):=by omega
        obtain ⟨z,hz⟩:=at_some hl2
        have gz:=bys_get hz hl2
        have hd2:=drop_at hz
        clear hz
        have hH:=readF_hex (acc:=acc) (t:=(bys s).drop (j + 2 + 1)) (d:=y) (e:=z) hsp
        by_cases hy0 : hexZ y < 0
        ·have HF : Hid (readF [] (bys s) = none):=by show _ = _;rw [← HR.out,hd.out,hd1,hd2,h92,hH,hexZ_neg hy0]
         clear h92 hsp hd1 hd2 hH
         go_wp2_with (first
          | (go_at_call 133;(with_reducible refine (indexbyte_no _ _ y (u8_back _) _ HM.out).mono ?_);rintro e w4 ⟨rfl,rfl⟩)
          | (go_at_call 151;(with_reducible refine (digit_any y _).mono ?_);rintro e w5 ⟨rfl,hx5⟩;have HX5:=hid hx5;clear hx5))
         go_ret2
         exact ⟨by rw [HV.out,HF.out];rfl,Below.trans HX.out (Below.mono HX5.out HI.out.le)⟩
        ·obtain ⟨a,ha1,ha2,ha3⟩:=hexZ_pos hy0
         by_cases hz0 : hexZ z < 0
         ·have HF : Hid (readF [] (bys s) = none):=by show _ = _;rw [← HR.out,hd.out,hd1,hd2,h92,hH,ha1,hexZ_neg hz0]
          clear h92 hsp hd1 hd2 hH ha1 ha2 ha3
          go_wp2_with (first
           | (go_at_call 133;(with_reducible refine (indexbyte_no _ _ y (u8_back _) _ HM.out).mono ?_);rintro e w4 ⟨rfl,rfl⟩)
           | (go_at_call 151;(with_reducible refine (digit_any y _).mono ?_);rintro e w5 ⟨rfl,hx5⟩;have HX5:=hid hx5;clear hx5)
           | (go_at_call 151;(with_reducible refine (digit_any z _).mono ?_);rintro e w6 ⟨rfl,hx6⟩;have HX6:=hid hx6;clear hx6))
          go_ret2
          exact ⟨by rw [HV.out,HF.out];rfl,Below.trans HX.out (Below.mono (HX5.out.trans HX6.out) HI.out.le)⟩
         ·obtain ⟨b,hb1,hb2,hb3⟩:=hexZ_pos hz0
          have HH : Hid (readF (acc ++ [UInt8.ofNat (16 * a + b)]) ((bys s).drop (j + 2 + 1)) = readF [] (bys s)):=by show _ = _;rw [← HR.out,hd.out,hd1,hd2,h92,hH,ha1,hb1]
          have HA:=hid ha2
          have HB:=hid hb2
          obtain ⟨q,hq⟩ : ∃ q,q = UInt8.ofNat (16 * a + b):=⟨_,rfl⟩
          rw [← hq] at HH
          have hov : bits BinOp.or IntKind.i64 ((a : Int) * 16) (b : Int) % 256 = (q.toNat : Int):=by
           have h1:=hex_or a ha3 b hb3
           rw [Int.natCast_mul,Int.mul_comm] at h1
           have h2 : (((16 : Nat) : Int)) = 16:=rfl
           rw [h2] at h1
           rw [h1,hq,UInt8.toNat_ofNat']
           omega
          clear hq
          have ta : ¬ (a : Int) < 0:=by omega
          have tb : ¬ (b : Int) < 0:=by omega
          clear h92 hsp hd1 hd2 hH ha1 hb1 hy0 hz0 ha2 hb2
          go_wp2_with (first
           | (go_at_call 133;(with_reducible refine (indexbyte_no _ _ y (u8_back _) _ HM.out).mono ?_);rintro e w4 ⟨rfl,rfl⟩)
           | (go_at_call 151;(with_reducible refine (digit_any y _).mono ?_);rintro e w5 ⟨he5,hx5⟩;rw [HA.out] at he5;subst he5;have HX5:=hid hx5;clear hx5)
           | (go_at_call 151;(with_reducible refine (digit_any z _).mono ?_);rintro e w6 ⟨he6,hx6⟩;rw [HB.out] at he6;subst he6;have HX6:=hid hx6;clear hx6))
          have HI6:=hid (HI.out.ext (HX5.out.trans HX6.out))
          have HX0:=hid (Below.trans HX.out (Below.mono (HX5.out.trans HX6.out) HI.out.le))
          refine wp_region_planB w.heap.size (.read 0 (.read 1 (.read 2 (.read 3 (.read 6 (.read 7 (.read 8 (.read 9 (.main 4 (.read 5 (.main 10 (.read 11 (.read 12 (.main 13 .done)))))))))))))) (by kernel_rfl) (by kernel_rfl) ?_
          intro wD hxD
          have XB : Hid (Below w.heap.size wD wD):=Below.refl _ _
          have HID:=hid (HI6.out.ext hxD)
          have HXD:=hid (Below.trans HX0.out (Below.mono hxD HI6.out.le))
          have hle:=hid HID.out.le
          have p1 : 0 ≤ (j : Int) + 1:=by omega
          have p2 : 0 ≤ (j : Int) + 2:=by omega
          repeat' (first
           | ((first | refine walksB_move rfl rfl ?_ | refine walksB_assign rfl rfl ?_ | refine walksB_skip rfl rfl ?_);simp only [Act.put,Act.eval,evs])
           | (refine walksB_unwanted rfl rfl ?_;simp only [Act.put,evp])
           | (refine walksB_read (v:=?_) rfl rfl (fun w' hE=>?_) ?_;rotate_left 1;(· ((try (have hEx:=Below.trans (Hid.out XB) hE));go_simp;(try go_bits);with_reducible rfl));simp only [Act.put,evp])
           | (refine walksB_alt ?_ ?_)
           | (refine walksB_main rfl rfl (fun K hK=>?_);go_wp2_with (first | (go_at_call 151;(with_reducible refine (digit_any y _).mono ?_);rintro e w7 ⟨he7,hx7⟩;rw [HA.out] at he7;subst he7;have hx7':=Below.mono hx7 (Nat.le_trans hle.out (Below.size XB.out));have HID':=hid (HID.out.ext hx7);clear HID hx7;have HID:=HID';clear HID';have XB':=hid (Below.trans (Hid.out XB) (hx7'));clear XB;have XB:=XB';clear XB') | (go_at_call 151;(with_reducible refine (digit_any z _).mono ?_);rintro e w8 ⟨he8,hx8⟩;rw [HB.out] at he8;subst he8;have hx8':=Below.mono hx8 (Nat.le_trans hle.out (Below.size XB.out));have HID':=hid (HID.out.ext hx8);clear HID hx8;have HID:=HID';clear HID';have XB':=hid (Below.trans (Hid.out XB) (hx8'));clear XB;have XB:=XB';clear XB') | (go_at_call 106;(with_reducible refine (writeByte_any q HID.out (by omega)).mono ?_);rintro e w9 ⟨rfl,hi9,hx9⟩;have HI9:=hid hi9;clear hi9;have XB':=hid (Below.trans (Hid.out XB) (hx9));clear XB;have XB:=XB';clear XB'));refine hK _ _ (by first | assumption | exact Below.refl _ _ | exact Below.mono (Ext.alloc _ _) (Hid.out HSW) | exact Below.setCell (p:=⟨_,_,_⟩) (Below.refl _ _) (Nat.le_refl _) _) ?_;clear hK K;try simp only [Act.put,evp]))
          refine walksB_done ?_
          go_wp2
          exact ⟨⟨j + 3,acc ++ [q],by omega,by go_num,by simp;omega,HI9,HH,Below.trans HXD.out XB.out⟩,by simp [intOf];omega⟩
       ·have hl2' : ¬ (j : Int) + 2 < (s.size : Int):=by omega
        have HF : Hid (readF [] (bys s) = none):=by show _ = _;rw [← HR.out,hd.out,hd1,h92,show (bys s).drop (j + 1 + 1) = [] from drop_none (by omega),readF_hex1 hsp]
        clear h92 hsp hd1
        go_wp2_with (first
         | (go_at_call 133;(with_reducible refine (indexbyte_no _ _ y (u8_back _) _ HM.out).mono ?_);rintro e w4 ⟨rfl,rfl⟩))
        go_ret2
        exact ⟨by rw [HV.out,HF.out];rfl,HX.out⟩
     ·have hl1' : ¬ (j : Int) + 1 < (s.size : Int):=by omega
      have hl2' : ¬ (j : Int) + 2 < (s.size : Int):=by omega
      have HF : Hid (readF [] (bys s) = none):=by show _ = _;rw [← HR.out,hd.out,h92,show (bys s).drop (j + 1) = [] from drop_none (by omega),readF_end]
      clear h92
      go_wp2
      go_ret2
      exact ⟨by rw [HV.out,HF.out];rfl,HX.out⟩
    ·have t92 : ((x.toNat : Int) != 92) = true:=by
      have h : ((x.toNat : Int) == 92) = false:=byte_isnt (k:=92) h92
      rw [bne,h];rfl
     have hP:=readF_plain (acc:=acc) (t:=(bys s).drop (j + 1)) h92
     by_cases h0 : x = 0
     ·have t0 : ((x.toNat : Int) == 0) = true:=byte_is (k:=0) (by decide) h0
      have HF : Hid (readF [] (bys s) = none):=by show _ = _;rw [← HR.out,hd.out,hP,if_pos (by rw [h0];rfl)]
      clear h92 h0 hP
      go_wp2
      go_ret2
      exact ⟨by rw [HV.out,HF.out];rfl,HX.out⟩
     ·have t0 : ((x.toNat : Int) == 0) = false:=byte_isnt (k:=0) h0
      cases hsp : specB x with
      | true=>
       have HM:=hid ((mem_spec x).1 hsp)
       have HF : Hid (readF [] (bys s) = none):=by show _ = _;rw [← HR.out,hd.out,hP,if_pos (by rw [hsp];simp)]
       clear h92 h0 hP hsp
       go_wp2_with (first
        | (go_at_call 133;(with_reducible refine (indexbyte_yes _ _ x (u8_back _) _ HM.out).mono ?_);rintro e w4 ⟨⟨i,rfl⟩,rfl⟩;have hi0 : 0 ≤ (i : Int):=by omega))
       go_ret2
       exact ⟨by rw [HV.out,HF.out];rfl,HX.out⟩
      | false=>
       have HM : Hid (x ∉ ([44,43,34,92,60,62,59] : List UInt8)):=fun h=>by have:=(mem_spec x).2 h;rw [hsp] at this;cases this
       have hemp : ((bys s).drop (j + 1)).isEmpty = decide (j + 1 = s.size):=by
        rw [Bool.eq_iff_iff,List.isEmpty_iff,decide_eq_true_eq,List.drop_eq_nil_iff,bys_len]
        omega
       by_cases h32 : x = 32 ∧ j + 1 = s.size
       ·have t32 : ((x.toNat : Int) == 32) = true:=byte_is (k:=32) (by decide) h32.1
        have te : ((j : Int) == (s.size : Int) - 1) = true:=by rw [beq_iff_eq];omega
        have HF : Hid (readF [] (bys s) = none):=by show _ = _;rw [← HR.out,hd.out,hP,if_pos (by rw [hemp,h32.1,decide_eq_true h32.2];rfl)]
        clear h92 h0 hP hsp hemp h32
        go_wp2_with (first
         | (go_at_call 133;(with_reducible refine (indexbyte_no _ _ x (u8_back _) _ HM.out).mono ?_);rintro e w4 ⟨rfl,rfl⟩))
        go_ret2
        exact ⟨by rw [HV.out,HF.out];rfl,HX.out⟩
       ·have HH : Hid (readF (acc ++ [x]) ((bys s).drop (j + 1)) = readF [] (bys s)):=by
         show _ = _
         rw [← HR.out,hd.out,hP,if_neg]
         rw [hemp,hsp]
         simp [h0]
         exact fun e=>fun e2=>h32 ⟨e,e2⟩
        have t32 : ((x.toNat : Int) == 32) = false ∨ (((x.toNat : Int) == 32) = true ∧ ((j : Int) == (s.size : Int) - 1) = false):=by
         by_cases h3 : x = 32
         ·right
          refine ⟨byte_is (k:=32) (by decide) h3,?_⟩
          rw [beq_eq_false_iff_ne]
          intro e
          exact h32 ⟨h3,by omega⟩
         ·exact .inl (byte_isnt (k:=32) h3)
        clear h92 h0 hP hsp hemp h32
        rcases t32 with t32 | ⟨t32,te⟩
        all_goals
         go_wp2_with (first
          | (go_at_call 133;(with_reducible refine (indexbyte_no _ _ x (u8_back _) _ HM.out).mono ?_);rintro e w4 ⟨rfl,rfl⟩)
          | (go_at_call 106;(with_reducible refine (writeByte_any x HI.out (by omega)).mono ?_);rintro e w5 ⟨rfl,hi5,hx5⟩;have HI5:=hid hi5;have HX5:=hid hx5;clear hi5 hx5))
         exact ⟨⟨j + 1,acc ++ [x],by omega,by go_num,by simp;omega,HI5,HH,Below.trans HX.out HX5.out⟩,by simp [intOf];omega⟩
   ·obtain rfl : j = s.size:=by omega
    have HF : Hid (readF [] (bys s) = some acc):=by show _ = _;rw [← HR.out,drop_none (Nat.le_refl _)];rfl
    go_wp2_with (go_at_call 68;(with_reducible refine (string_any HI.out).mono ?_);rintro e w4 ⟨rfl,hx4⟩;have HX4:=hid hx4;clear hx4)
    go_ret2
    exact ⟨by rw [HV.out,HF.out];rfl,Below.trans HX.out HX4.out⟩
 ·have e1:=emp_nb hz
  have hsz : 0 < s.size:=by omega
  obtain ⟨y,hy⟩:=at_some hsz
  have gy:=bys_get hy hsz
  have hhd : (bys s).head? = some y:=by rw [List.head?_eq_getElem?,hy]
  clear hy
  by_cases h32 : y = 32
  ·have t32 : ((y.toNat : Int) == 32) = true:=byte_is (k:=32) (by decide) h32
   have HV : Hid (valueB (bys s) = none):=by show _ = _;unfold valueB;rw [hhd,h32,if_pos (.inl rfl)]
   clear hhd hz h32
   go_enter Tryz.func130,Tryz.ntmps130
   go_wp2
   go_ret2
   exact ⟨by rw [HV.out];rfl,Ext.alloc _ _⟩
  ·have t32 : ((y.toNat : Int) == 32) = false:=byte_isnt (k:=32) h32
   by_cases h35 : y = 35
   ·have t35 : ((y.toNat : Int) == 35) = true:=byte_is (k:=35) (by decide) h35
    have HV : Hid (valueB (bys s) = none):=by show _ = _;unfold valueB;rw [hhd,h35,if_pos (.inr rfl)]
    clear hhd hz h32 h35
    go_enter Tryz.func130,Tryz.ntmps130
    go_wp2
    go_ret2
    exact ⟨by rw [HV.out];rfl,Ext.alloc _ _⟩
   ·have t35 : ((y.toNat : Int) == 35) = false:=byte_isnt (k:=35) h35
    have HV : Hid (valueB (bys s) = readF [] (bys s)):=by
     show _ = _
     unfold valueB
     rw [hhd,if_neg]
     rintro (h | h)
     ·injection h with h;exact h32 h
     ·injection h with h;exact h35 h
    clear hhd hz h32 h35
    go_enter Tryz.func130,Tryz.ntmps130
    go_wp2
    go_wp2
    go_loopw [5] (fun i wr=>∃ (j : Nat) (acc : List UInt8),j ≤ s.size ∧ i = .int .i64 j ∧ acc.length ≤ j ∧ Hid (IsB w.heap.size w.heap.size acc wr) ∧ Hid (readF acc ((bys s).drop j) = readF [] (bys s)) ∧ Hid (Below w.heap.size w wr)) (fun i _=>s.size - (intOf i).toNat)
    case atStart=>exact ⟨0,[],by omega,rfl,by simp,isB_new w,by simp [Hid],Ext.alloc _ _⟩
    case round=>
     obtain ⟨j,acc,hj,rfl,hacc,HI,HR,HX⟩:=hrel
     by_cases hlt : j < s.size
     ·obtain ⟨x,hx⟩:=at_some hlt
      have gx:=bys_get hx hlt
      have hd:=hid (drop_at hx)
      clear hx
      by_cases h92 : x = 92
      ·have t92 : ((x.toNat : Int) != 92) = false:=by rw [h92];rfl
       by_cases hl1 : j + 1 < s.size
       ·have hl1' : (j : Int) + 1 < (s.size : Int):=by omega
        obtain ⟨y,hy⟩:=at_some hl1
        have gy:=bys_get hy hl1
        have hd1:=drop_at hy
        clear hy
        cases hsp : spec2 y with
        | true=>
         have HM:=hid ((mem_spec2 y).1 hsp)
         have HH : Hid (readF (acc ++ [y]) ((bys s).drop (j + 1 + 1)) = readF [] (bys s)):=by show _ = _;rw [← HR.out,hd.out,hd1,h92,readF_spec hsp]
         clear h92 hsp hd1
         go_wp2_with (first
          | (go_at_call 133;(with_reducible refine (indexbyte_yes _ _ y (u8_back _) _ HM.out).mono ?_);rintro e w4 ⟨⟨i,rfl⟩,rfl⟩;have hi0 : 0 ≤ (i : Int):=by omega)
          | (go_at_call 106;(with_reducible refine (writeByte_any y HI.out (by omega)).mono ?_);rintro e w5 ⟨rfl,hi5,hx5⟩;have HI5:=hid hi5;have HX5:=hid hx5;clear hi5 hx5))
         exact ⟨⟨j + 2,acc ++ [y],by omega,by go_num,by simp;omega,HI5,HH,Below.trans HX.out HX5.out⟩,by simp [intOf];omega⟩
        | false=>
         have HM : Hid (y ∉ ([44,43,34,92,60,62,59,35,61,32] : List UInt8)):=fun h=>by have:=(mem_spec2 y).2 h;rw [hsp] at this;cases this
         by_cases hl2 : j + 2 < s.size
         ·have hl2' : (j : Int) + 2 < (s.size : Int):=by omega
          obtain ⟨z,hz⟩:=at_some hl2
          have gz:=bys_get hz hl2
          have hd2:=drop_at hz
          clear hz
          have hH:=readF_hex (acc:=acc) (t:=(bys s).drop (j + 2 + 1)) (d:=y) (e:=z) hsp
          by_cases hy0 : hexZ y < 0
          ·have HF : Hid (readF [] (bys s) = none):=by show _ = _;rw [← HR.out,hd.out,hd1,hd2,h92,hH,hexZ_neg hy0]
           clear h92 hsp hd1 hd2 hH
           go_wp2_with (first
            | (go_at_call 133;(with_reducible refine (indexbyte_no _ _ y (u8_back _) _ HM.out).mono ?_);rintro e w4 ⟨rfl,rfl⟩)
            | (go_at_call 151;(with_reducible refine (digit_any y _).mono ?_);rintro e w5 ⟨rfl,hx5⟩;have HX5:=hid hx5;clear hx5))
           go_ret2
           exact ⟨by rw [HV.out,HF.out];rfl,Below.trans HX.out (Below.mono HX5.out HI.out.le)⟩
          ·obtain ⟨a,ha1,ha2,ha3⟩:=hexZ_pos hy0
           by_cases hz0 : hexZ z < 0
           ·have HF : Hid (readF [] (bys s) = none):=by show _ = _;rw [← HR.out,hd.out,hd1,hd2,h92,hH,ha1,hexZ_neg hz0]
            clear h92 hsp hd1 hd2 hH ha1 ha2 ha3
            go_wp2_with (first
             | (go_at_call 133;(with_reducible refine (indexbyte_no _ _ y (u8_back _) _ HM.out).mono ?_);rintro e w4 ⟨rfl,rfl⟩)
             | (go_at_call 151;(with_reducible refine (digit_any y _).mono ?_);rintro e w5 ⟨rfl,hx5⟩;have HX5:=hid hx5;clear hx5)
             | (go_at_call 151;(with_reducible refine (digit_any z _).mono ?_);rintro e w6 ⟨rfl,hx6⟩;have HX6:=hid hx6;clear hx6))
            go_ret2
            exact ⟨by rw [HV.out,HF.out];rfl,Below.trans HX.out (Below.mono (HX5.out.trans HX6.out) HI.out.le)⟩
           ·obtain ⟨b,hb1,hb2,hb3⟩:=hexZ_pos hz0
            have HH : Hid (readF (acc ++ [UInt8.ofNat (16 * a + b)]) ((bys s).drop (j + 2 + 1)) = readF [] (bys s)):=by show _ = _;rw [← HR.out,hd.out,hd1,hd2,h92,hH,ha1,hb1]
            have HA:=hid ha2
            have HB:=hid hb2
            obtain ⟨q,hq⟩ : ∃ q,q = UInt8.ofNat (16 * a + b):=⟨_,rfl⟩
            rw [← hq] at HH
            have hov : bits BinOp.or IntKind.i64 ((a : Int) * 16) (b : Int) % 256 = (q.toNat : Int):=by
             have h1:=hex_or a ha3 b hb3
             rw [Int.natCast_mul,Int.mul_comm] at h1
             have h2 : (((16 : Nat) : Int)) = 16:=rfl
             rw [h2] at h1
             rw [h1,hq,UInt8.toNat_ofNat']
             omega
            clear hq
            have ta : ¬ (a : Int) < 0:=by omega
            have tb : ¬ (b : Int) < 0:=by omega
            clear h92 hsp hd1 hd2 hH ha1 hb1 hy0 hz0 ha2 hb2
            go_wp2_with (first
             | (go_at_call 133;(with_reducible refine (indexbyte_no _ _ y (u8_back _) _ HM.out).mono ?_);rintro e w4 ⟨rfl,rfl⟩)
             | (go_at_call 151;(with_reducible refine (digit_any y _).mono ?_);rintro e w5 ⟨he5,hx5⟩;rw [HA.out] at he5;subst he5;have HX5:=hid hx5;clear hx5)
             | (go_at_call 151;(with_reducible refine (digit_any z _).mono ?_);rintro e w6 ⟨he6,hx6⟩;rw [HB.out] at he6;subst he6;have HX6:=hid hx6;clear hx6))
            have HI6:=hid (HI.out.ext (HX5.out.trans HX6.out))
            have HX0:=hid (Below.trans HX.out (Below.mono (HX5.out.trans HX6.out) HI.out.le))
            refine wp_region_planB w.heap.size (.read 0 (.read 1 (.read 2 (.read 3 (.read 6 (.read 7 (.read 8 (.read 9 (.main 4 (.read 5 (.main 10 (.read 11 (.read 12 (.main 13 .done)))))))))))))) (by kernel_rfl) (by kernel_rfl) ?_
            intro wD hxD
            have XB : Hid (Below w.heap.size wD wD):=Below.refl _ _
            have HID:=hid (HI6.out.ext hxD)
            have HXD:=hid (Below.trans HX0.out (Below.mono hxD HI6.out.le))
            have hle:=hid HID.out.le
            have p1 : 0 ≤ (j : Int) + 1:=by omega
            have p2 : 0 ≤ (j : Int) + 2:=by omega
            repeat' (first
             | ((first | refine walksB_move rfl rfl ?_ | refine walksB_assign rfl rfl ?_ | refine walksB_skip rfl rfl ?_);simp only [Act.put,Act.eval,evs])
             | (refine walksB_unwanted rfl rfl ?_;simp only [Act.put,evp])
             | (refine walksB_read (v:=?_) rfl rfl (fun w' hE=>?_) ?_;rotate_left 1;(· ((try (have hEx:=Below.trans (Hid.out XB) hE));go_simp;(try go_bits);with_reducible rfl));simp only [Act.put,evp])
             | (refine walksB_alt ?_ ?_)
             | (refine walksB_main rfl rfl (fun K hK=>?_);go_wp2_with (first | (go_at_call 151;(with_reducible refine (digit_any y _).mono ?_);rintro e w7 ⟨he7,hx7⟩;rw [HA.out] at he7;subst he7;have hx7':=Below.mono hx7 (Nat.le_trans hle.out (Below.size XB.out));have HID':=hid (HID.out.ext hx7);clear HID hx7;have HID:=HID';clear HID';have XB':=hid (Below.trans (Hid.out XB) (hx7'));clear XB;have XB:=XB';clear XB') | (go_at_call 151;(with_reducible refine (digit_any z _).mono ?_);rintro e w8 ⟨he8,hx8⟩;rw [HB.out] at he8;subst he8;have hx8':=Below.mono hx8 (Nat.le_trans hle.out (Below.size XB.out));have HID':=hid (HID.out.ext hx8);clear HID hx8;have HID:=HID';clear HID';have XB':=hid (Below.trans (Hid.out XB) (hx8'));clear XB;have XB:=XB';clear XB') | (go_at_call 106;(with_reducible refine (writeByte_any q HID.out (by omega)).mono ?_);rintro e w9 ⟨rfl,hi9,hx9⟩;have HI9:=hid hi9;clear hi9;have XB':=hid (Below.trans (Hid.out XB) (hx9));clear XB;have XB:=XB';clear XB'));refine hK _ _ (by first | assumption | exact Below.refl _ _ | exact Below.mono (Ext.alloc _ _) (Hid.out HSW) | exact Below.setCell (p:=⟨_,_,_⟩) (Below.refl _ _) (Nat.le_refl _) _) ?_;clear hK K;try simp only [Act.put,evp]))
            refine walksB_done ?_
            go_wp2
            exact ⟨⟨j + 3,acc ++ [q],by omega,by go_num,by simp;omega,HI9,HH,Below.trans HXD.out XB.out⟩,by simp [intOf];omega⟩
         ·have hl2' : ¬ (j : Int) + 2 < (s.size : Int):=by omega
          have HF : Hid (readF [] (bys s) = none):=by show _ = _;rw [← HR.out,hd.out,hd1,h92,show (bys s).drop (j + 1 + 1) = [] from drop_none (by omega),readF_hex1 hsp]
          clear h92 hsp hd1
          go_wp2_with (first
           | (go_at_call 133;(with_reducible refine (indexbyte_no _ _ y (u8_back _) _ HM.out).mono ?_);rintro e w4 ⟨rfl,rfl⟩))
          go_ret2
          exact ⟨by rw [HV.out,HF.out];rfl,HX.out⟩
       ·have hl1' : ¬ (j : Int) + 1 < (s.size : Int):=by omega
        have hl2' : ¬ (j : Int) + 2 < (s.size : Int):=by omega
        have HF : Hid (readF [] (bys s) = none):=by show _ = _;rw [← HR.out,hd.out,h92,show (bys s).drop (j + 1) = [] from drop_none (by omega),readF_end]
        clear h92
        go_wp2
        go_ret2
        exact ⟨by rw [HV.out,HF.out];rfl,HX.out⟩
      ·have t92 : ((x.toNat : Int) != 92) = true:=by
        have h : ((x.toNat : Int) == 92) = false:=byte_isnt (k:=92) h92
        rw [bne,h];rfl
       have hP:=readF_plain (acc:=acc) (t:=(bys s).drop (j + 1)) h92
       by_cases h0 : x = 0
       ·have t0 : ((x.toNat : Int) == 0) = true:=byte_is (k:=0) (by decide) h0
        have HF : Hid (readF [] (bys s) = none):=by show _ = _;rw [← HR.out,hd.out,hP,if_pos (by rw [h0];rfl)]
        clear h92 h0 hP
        go_wp2
        go_ret2
        exact ⟨by rw [HV.out,HF.out];rfl,HX.out⟩
       ·have t0 : ((x.toNat : Int) == 0) = false:=byte_isnt (k:=0) h0
        cases hsp : specB x with
        | true=>
         have HM:=hid ((mem_spec x).1 hsp)
         have HF : Hid (readF [] (bys s) = none):=by show _ = _;rw [← HR.out,hd.out,hP,if_pos (by rw [hsp];simp)]
         clear h92 h0 hP hsp
         go_wp2_with (first
          | (go_at_call 133;(with_reducible refine (indexbyte_yes _ _ x (u8_back _) _ HM.out).mono ?_);rintro e w4 ⟨⟨i,rfl⟩,rfl⟩;have hi0 : 0 ≤ (i : Int):=by omega))
         go_ret2
         exact ⟨by rw [HV.out,HF.out];rfl,HX.out⟩
        | false=>
         have HM : Hid (x ∉ ([44,43,34,92,60,62,59] : List UInt8)):=fun h=>by have:=(mem_spec x).2 h;rw [hsp] at this;cases this
         have hemp : ((bys s).drop (j + 1)).isEmpty = decide (j + 1 = s.size):=by
          rw [Bool.eq_iff_iff,List.isEmpty_iff,decide_eq_true_eq,List.drop_eq_nil_iff,bys_len]
          omega
         by_cases h32 : x = 32 ∧ j + 1 = s.size
         ·have t32 : ((x.toNat : Int) == 32) = true:=byte_is (k:=32) (by decide) h32.1
          have te : ((j : Int) == (s.size : Int) - 1) = true:=by rw [beq_iff_eq];omega
          have HF : Hid (readF [] (bys s) = none):=by show _ = _;rw [← HR.out,hd.out,hP,if_pos (by rw [hemp,h32.1,decide_eq_true h32.2];rfl)]
          clear h92 h0 hP hsp hemp h32
          go_wp2_with (first
           | (go_at_call 133;(with_reducible refine (indexbyte_no _ _ x (u8_back _) _ HM.out).mono ?_);rintro e w4 ⟨rfl,rfl⟩))
          go_ret2
          exact ⟨by rw [HV.out,HF.out];rfl,HX.out⟩
         ·have HH : Hid (readF (acc ++ [x]) ((bys s).drop (j + 1)) = readF [] (bys s)):=by
           show _ = _
           rw [← HR.out,hd.out,hP,if_neg]
           rw [hemp,hsp]
           simp [h0]
           exact fun e=>fun e2=>h32 ⟨e,e2⟩
          have t32 : ((x.toNat : Int) == 32) = false ∨ (((x.toNat : Int) == 32) = true ∧ ((j : Int) == (s.size : Int) - 1) = false):=by
           by_cases h3 : x = 32
           ·right
            refine ⟨byte_is (k:=32) (by decide) h3,?_⟩
            rw [beq_eq_false_iff_ne]
            intro e
            exact h32 ⟨h3,by omega⟩
           ·exact .inl (byte_isnt (k:=32) h3)
          clear h92 h0 hP hsp hemp h32
          rcases t32 with t32 | ⟨t32,te⟩
          all_goals
           go_wp2_with (first
            | (go_at_call 133;(with_reducible refine (indexbyte_no _ _ x (u8_back _) _ HM.out).mono ?_);rintro e w4 ⟨rfl,rfl⟩)
            | (go_at_call 106;(with_reducible refine (writeByte_any x HI.out (by omega)).mono ?_);rintro e w5 ⟨rfl,hi5,hx5⟩;have HI5:=hid hi5;have HX5:=hid hx5;clear hi5 hx5))
           exact ⟨⟨j + 1,acc ++ [x],by omega,by go_num,by simp;omega,HI5,HH,Below.trans HX.out HX5.out⟩,by simp [intOf];omega⟩
     ·obtain rfl : j = s.size:=by omega
      have HF : Hid (readF [] (bys s) = some acc):=by show _ = _;rw [← HR.out,drop_none (Nat.le_refl _)];rfl
      go_wp2_with (go_at_call 68;(with_reducible refine (string_any HI.out).mono ?_);rintro e w4 ⟨rfl,hx4⟩;have HX4:=hid hx4;clear hx4)
      go_ret2
      exact ⟨by rw [HV.out,HF.out];rfl,Below.trans HX.out HX4.out⟩
theorem head_drop {s : ByteArray} {x : UInt8} (h : (bys s)[0]? = some x) : (bys s).head? = some x:=by rw [List.head?_eq_getElem?,h]
theorem lit_char_wp {w : World} {o : Oper} {a : Act} {K : Act → World → Prop} {Q : Exit → Act → World → Prop} (x : Operand) (ho : o.op = .buildSlice 105 1 #[(0,x)]) (q : UInt8) (hx : a.eval x = .int .u8 (q.toNat : Int))
 (h : ∀ A w',Ext w w' → Sl w' A 1 1 [q] → K (a.put o.dst (.slice A 1 1)) w') : o.wp Tryz.prog a w K Q:=
 lit1_wp x ho (q.toNat : Int) hx ⟨by omega,by have:=q.toNat_lt;omega⟩ fun A w' h1 h2=>h A w' h1 (by rw [Int.toNat_natCast,UInt8.ofNat_toNat] at h2;exact h2)
theorem read_any (s : ByteArray) (w : World) (hs : s.size ≤ 4000000) : Calls Tryz.prog 154 #[.string s] w (ValSays w (valueB (bys s))):=by
 have Hs:=hid hs
 go_enter Tryz.func154,Tryz.ntmps154
 go_wp2
 go_loopw [4,5] (fun v i wr=>∃ (j : Nat) (acc : List UInt8),j ≤ s.size ∧ i = .int .i64 j ∧ acc.length ≤ j ∧ Hid (GrowB w wr v acc) ∧ Hid ((j = 0 ∧ acc = []) ∨ (0 < j ∧ readF acc ((bys s).drop j) = valueB (bys s)))) (fun _ i _=>s.size - (intOf i).toNat)
 case atStart=>exact ⟨0,[],by omega,rfl,by simp,GrowB.nil (Ext.refl _),.inl ⟨rfl,rfl⟩⟩
 case round=>
  obtain ⟨j,acc,hj,rfl,hacc,HG,HR0⟩:=hrel
  by_cases hlt : j < s.size
  ·obtain ⟨x,hx⟩:=at_some hlt
   have gx:=bys_get hx hlt
   have hd:=hid (drop_at hx)
   have t0j : ((j : Int) == 0) = decide (j = 0):=by rw [Bool.eq_iff_iff,beq_iff_eq,decide_eq_true_eq];omega
   by_cases hbad : j = 0 ∧ (x = 32 ∨ x = 35)
   ·have HV : Hid (valueB (bys s) = none):=by
     show _ = _
     unfold valueB
     rw [head_drop (by rw [← hbad.1];exact hx),if_pos]
     rcases hbad.2 with h | h
     ·exact .inl (by rw [h])
     ·exact .inr (by rw [h])
    obtain ⟨h0,hc⟩:=hbad
    have tj : ((j : Int) == 0) = true:=by rw [h0];rfl
    have HSP : Hid (specB x = false):=by rcases hc with rfl | rfl <;> rfl
    have t92 : ((x.toNat : Int) != 92) = true:=by rcases hc with rfl | rfl <;> rfl
    have t0 : ((x.toNat : Int) == 0) = false:=by rcases hc with rfl | rfl <;> rfl
    have tc : ((x.toNat : Int) == 32) = true ∨ (((x.toNat : Int) == 32) = false ∧ ((x.toNat : Int) == 35) = true):=by rcases hc with rfl | rfl;exact .inl rfl;exact .inr ⟨rfl,rfl⟩
    clear hx t0j h0 hc
    rcases tc with tc | ⟨tc,td⟩
    all_goals
     go_wp2_with (first
      | (go_at_call 139;(with_reducible refine (special_any x _).mono ?_);rintro e w4 ⟨he4,rfl⟩;rw [HSP.out] at he4;subst he4))
     go_ret2
     exact ⟨by rw [HV.out];rfl,HG.out.ext⟩
   ·have HR : Hid (readF acc ((bys s).drop j) = valueB (bys s)):=by
     rcases HR0.out with ⟨h0,ha⟩ | ⟨_,h⟩
     ·show _ = _
      subst ha
      rw [h0,List.drop_zero]
      unfold valueB
      rw [head_drop (by rw [← h0];exact hx),if_neg]
      rintro (h | h)
      ·injection h with h;exact hbad ⟨h0,.inl h⟩
      ·injection h with h;exact hbad ⟨h0,.inr h⟩
     ·exact h
    clear HR0 hx
    by_cases h92 : x = 92
    ·have t92 : ((x.toNat : Int) != 92) = false:=by rw [h92];rfl
     clear hbad t0j
     by_cases hl1 : j + 1 < s.size
     ·have hl1' : (j : Int) + 1 < (s.size : Int):=by omega
      have p1 : 0 ≤ (j : Int) + 1:=by omega
      obtain ⟨y,hy⟩:=at_some hl1
      have gy:=bys_get hy hl1
      have hd1:=drop_at hy
      clear hy
      have hs2 : spec2 y = (specB y || y == 35 || y == 61 || y == 32):=rfl
      cases hsp : spec2 y with
      | true=>
       have HH : Hid (readF (acc ++ [y]) ((bys s).drop (j + 1 + 1)) = valueB (bys s)):=by show _ = _;rw [← HR.out,hd.out,hd1,h92,readF_spec hsp]
       have hq : specB y = true ∨ (specB y = false ∧ ((y.toNat : Int) == 35) = true) ∨ (specB y = false ∧ ((y.toNat : Int) == 35) = false ∧ ((y.toNat : Int) == 61) = true) ∨ (specB y = false ∧ ((y.toNat : Int) == 35) = false ∧ ((y.toNat : Int) == 61) = false ∧ ((y.toNat : Int) == 32) = true):=by
        rw [hs2] at hsp
        cases hb : specB y with
        | true=>exact .inl rfl
        | false=>
         rw [hb] at hsp
         by_cases h35 : y = 35
         ·exact .inr (.inl ⟨rfl,byte_is (k:=35) (by decide) h35⟩)
         ·by_cases h61 : y = 61
          ·exact .inr (.inr (.inl ⟨rfl,byte_isnt (k:=35) h35,byte_is (k:=61) (by decide) h61⟩))
          ·refine .inr (.inr (.inr ⟨rfl,byte_isnt (k:=35) h35,byte_isnt (k:=61) h61,byte_is (k:=32) (by decide) ?_⟩))
           simpa [h35,h61] using hsp
       clear h92 hsp hd1 hs2
       rcases hq with hq | ⟨hq,q1⟩ | ⟨hq,q1,q2⟩ | ⟨hq,q1,q2,q3⟩
       all_goals
        have HSY:=hid hq
        clear hq
        go_wp2_with (first
         | (go_at_call 139;(with_reducible refine (special_any y _).mono ?_);rintro e w4 ⟨he4,rfl⟩;rw [HSY.out] at he4;subst he4)
         | (at_builtin;refine append_grow rfl _ _ rfl _ _ rfl (HG.out.later (Ext.alloc _ _)) _ 1 1 [y] rfl (sl_char _ y) (by omega) ?_;intro v' w5 hg5;have HG5:=hid hg5;clear hg5))
        exact ⟨⟨j + 2,acc ++ [y],by omega,by go_num,by simp;omega,HG5,.inr ⟨by omega,HH⟩⟩,by simp [intOf];omega⟩
      | false=>
       have hq : specB y = false ∧ ((y.toNat : Int) == 35) = false ∧ ((y.toNat : Int) == 61) = false ∧ ((y.toNat : Int) == 32) = false:=by
        rw [hs2] at hsp
        simp only [Bool.or_eq_false_iff,beq_eq_false_iff_ne] at hsp
        exact ⟨hsp.1.1.1,byte_isnt (k:=35) hsp.1.1.2,byte_isnt (k:=61) hsp.1.2,byte_isnt (k:=32) hsp.2⟩
       obtain ⟨hq,q1,q2,q3⟩:=hq
       have HSY:=hid hq
       clear hq hs2
       by_cases hl2 : j + 2 < s.size
       ·have hl2' : (j : Int) + 2 < (s.size : Int):=by omega
        have p2 : 0 ≤ (j : Int) + 2:=by omega
        obtain ⟨z,hz⟩:=at_some hl2
        have gz:=bys_get hz hl2
        have hd2:=drop_at hz
        clear hz
        have hH:=readF_hex (acc:=acc) (t:=(bys s).drop (j + 2 + 1)) (d:=y) (e:=z) hsp
        by_cases hy0 : hexZ y < 0
        ·have HF : Hid (valueB (bys s) = none):=by show _ = _;rw [← HR.out,hd.out,hd1,hd2,h92,hH,hexZ_neg hy0]
         obtain ⟨u,hu⟩ : ∃ u,hexZ y = u:=⟨_,rfl⟩
         rw [hu] at hy0
         have HA:=hid hu
         clear h92 hsp hd1 hd2 hH hu
         go_wp2_with (first
          | (go_at_call 139;(with_reducible refine (special_any y _).mono ?_);rintro e w4 ⟨he4,rfl⟩;rw [HSY.out] at he4;subst he4)
          | (go_at_call 169;(with_reducible refine (hexz_any y _).mono ?_);rintro e w5 ⟨he5,rfl⟩;rw [HA.out] at he5;subst he5))
         go_ret2
         exact ⟨by rw [HF.out];rfl,HG.out.ext⟩
        ·obtain ⟨a,ha1,ha2,ha3⟩:=hexZ_pos hy0
         have HA:=hid ha2
         have ta : ¬ (a : Int) < 0:=by omega
         by_cases hz0 : hexZ z < 0
         ·have HF : Hid (valueB (bys s) = none):=by show _ = _;rw [← HR.out,hd.out,hd1,hd2,h92,hH,ha1,hexZ_neg hz0]
          obtain ⟨u,hu⟩ : ∃ u,hexZ z = u:=⟨_,rfl⟩
          rw [hu] at hz0
          have HB:=hid hu
          clear h92 hsp hd1 hd2 hH ha1 ha2 ha3 hy0 hu
          go_wp2_with (first
           | (go_at_call 139;(with_reducible refine (special_any y _).mono ?_);rintro e w4 ⟨he4,rfl⟩;rw [HSY.out] at he4;subst he4)
           | (go_at_call 169;(with_reducible refine (hexz_any y _).mono ?_);rintro e w5 ⟨he5,rfl⟩;rw [HA.out] at he5;subst he5)
           | (go_at_call 169;(with_reducible refine (hexz_any z _).mono ?_);rintro e w5 ⟨he5,rfl⟩;rw [HB.out] at he5;subst he5))
          go_ret2
          exact ⟨by rw [HF.out];rfl,HG.out.ext⟩
         ·obtain ⟨b,hb1,hb2,hb3⟩:=hexZ_pos hz0
          have HB:=hid hb2
          have tb : ¬ (b : Int) < 0:=by omega
          obtain ⟨q,hq⟩ : ∃ q,q = UInt8.ofNat (16 * a + b):=⟨_,rfl⟩
          have HH : Hid (readF (acc ++ [q]) ((bys s).drop (j + 2 + 1)) = valueB (bys s)):=by show _ = _;rw [← HR.out,hd.out,hd1,hd2,h92,hH,ha1,hb1,hq]
          have hov : 16 * (a : Int) + (b : Int) = (q.toNat : Int):=by
           rw [hq,UInt8.toNat_ofNat']
           omega
          clear hq
          clear h92 hsp hd1 hd2 hH ha1 hb1 hy0 hz0 ha2 hb2
          go_wp2_with (first
           | (go_at_call 139;(with_reducible refine (special_any y _).mono ?_);rintro e w4 ⟨he4,rfl⟩;rw [HSY.out] at he4;subst he4)
           | (go_at_call 169;(with_reducible refine (hexz_any y _).mono ?_);rintro e w5 ⟨he5,rfl⟩;rw [HA.out] at he5;subst he5)
           | (go_at_call 169;(with_reducible refine (hexz_any z _).mono ?_);rintro e w5 ⟨he5,rfl⟩;rw [HB.out] at he5;subst he5))
          refine wp_region_planB w.heap.size (.read 0 (.read 1 (.read 2 (.read 3 (.read 4 (.read 7 (.read 8 (.read 9 (.read 10 (.main 5 (.read 6 (.main 11 (.read 12 (.read 13 (.main 14 (.main 15 (.read 16 .done))))))))))))))))) (by kernel_rfl) (by kernel_rfl) ?_
          intro wD hxD
          have XB : Hid (Below w.heap.size wD wD):=Below.refl _ _
          have HGD:=hid (HG.out.later hxD)
          repeat' (first
           | ((first | refine walksB_move rfl rfl ?_ | refine walksB_assign rfl rfl ?_ | refine walksB_skip rfl rfl ?_);simp only [Act.put,Act.eval,evs])
           | (refine walksB_unwanted rfl rfl ?_;simp only [Act.put,evp])
           | (refine walksB_read (v:=?_) rfl rfl (fun w' hE=>?_) ?_;rotate_left 1;(· ((try (have hEx:=Below.trans (Hid.out XB) hE));go_simp;(try go_bits);with_reducible rfl));simp only [Act.put,evp])
           | (refine walksB_main rfl rfl (fun K hK=>?_);(first | (refine lit_char_wp _ rfl q (by first | rfl | exact congrArg (Value.int .u8) hov) ?_;intro A8 w8 hx8 hs8;have hx8':=Below.mono hx8 (ext_sz HGD.out.ext);have HGE:=hid (HGD.out.later hx8);have HS8:=hid hs8;clear hx8 hs8;have XB':=hid (Below.trans (Hid.out XB) (hx8'));clear XB;have XB:=XB';clear XB') | (refine append_grow_wp _ _ rfl _ acc rfl HGE.out _ 1 1 [q] rfl HS8.out (by omega) ?_;intro v' w9 hg9 hb9;have HG9:=hid hg9;clear hg9;have XB':=hid (Below.trans (Hid.out XB) (hb9));clear XB;have XB:=XB';clear XB'));refine hK _ _ (by first | assumption | exact Below.refl _ _ | exact Below.mono (Ext.alloc _ _) (Hid.out HSW) | exact Below.setCell (p:=⟨_,_,_⟩) (Below.refl _ _) (Nat.le_refl _) _) ?_;clear hK K;try simp only [Act.put,evp])
           | (refine walksB_alt ?_ ?_)
           | (refine walksB_main rfl rfl (fun K hK=>?_);go_wp2_with (first | (go_at_call 169;(with_reducible refine (hexz_any y _).mono ?_);rintro e w5 ⟨he5,rfl⟩;rw [HA.out] at he5;subst he5)| (go_at_call 169;(with_reducible refine (hexz_any z _).mono ?_);rintro e w5 ⟨he5,rfl⟩;rw [HB.out] at he5;subst he5));refine hK _ _ (by first | assumption | exact Below.refl _ _ | exact Below.mono (Ext.alloc _ _) (Hid.out HSW) | exact Below.setCell (p:=⟨_,_,_⟩) (Below.refl _ _) (Nat.le_refl _) _) ?_;clear hK K;try simp only [Act.put,evp]))
          refine walksB_done ?_
          go_wp2
          exact ⟨⟨j + 3,acc ++ [q],by omega,by go_num,by simp;omega,HG9,.inr ⟨by omega,HH⟩⟩,by simp [intOf];omega⟩
       ·have hl2' : ¬ (j : Int) + 2 < (s.size : Int):=by omega
        have HF : Hid (valueB (bys s) = none):=by show _ = _;rw [← HR.out,hd.out,hd1,h92,show (bys s).drop (j + 1 + 1) = [] from drop_none (by omega),readF_hex1 hsp]
        clear h92 hsp hd1
        go_wp2_with (first
         | (go_at_call 139;(with_reducible refine (special_any y _).mono ?_);rintro e w4 ⟨he4,rfl⟩;rw [HSY.out] at he4;subst he4))
        go_ret2
        exact ⟨by rw [HF.out];rfl,HG.out.ext⟩
     ·have hl1' : ¬ (j : Int) + 1 < (s.size : Int):=by omega
      have hl2' : ¬ (j : Int) + 2 < (s.size : Int):=by omega
      have HF : Hid (valueB (bys s) = none):=by show _ = _;rw [← HR.out,hd.out,h92,show (bys s).drop (j + 1) = [] from drop_none (by omega),readF_end]
      clear h92
      go_wp2
      go_ret2
      exact ⟨by rw [HF.out];rfl,HG.out.ext⟩
    ·have t92 : ((x.toNat : Int) != 92) = true:=by
      have h : ((x.toNat : Int) == 92) = false:=byte_isnt (k:=92) h92
      rw [bne,h];rfl
     have hP:=readF_plain (acc:=acc) (t:=(bys s).drop (j + 1)) h92
     cases hsp : specB x with
     | true=>
      have HSP:=hid hsp
      have HF : Hid (valueB (bys s) = none):=by show _ = _;rw [← HR.out,hd.out,hP,if_pos (by rw [hsp];simp)]
      clear h92 hP hsp hbad t0j
      go_wp2_with (first
       | (go_at_call 139;(with_reducible refine (special_any x _).mono ?_);rintro e w4 ⟨he4,rfl⟩;rw [HSP.out] at he4;subst he4))
      go_ret2
      exact ⟨by rw [HF.out];rfl,HG.out.ext⟩
     | false=>
      have HSP:=hid hsp
      by_cases h0 : x = 0
      ·have t0 : ((x.toNat : Int) == 0) = true:=byte_is (k:=0) (by decide) h0
       have HF : Hid (valueB (bys s) = none):=by show _ = _;rw [← HR.out,hd.out,hP,if_pos (by rw [h0];rfl)]
       clear h92 h0 hP hsp hbad t0j
       go_wp2_with (first
        | (go_at_call 139;(with_reducible refine (special_any x _).mono ?_);rintro e w4 ⟨he4,rfl⟩;rw [HSP.out] at he4;subst he4))
       go_ret2
       exact ⟨by rw [HF.out];rfl,HG.out.ext⟩
      ·have t0 : ((x.toNat : Int) == 0) = false:=byte_isnt (k:=0) h0
       have hemp : ((bys s).drop (j + 1)).isEmpty = decide (j + 1 = s.size):=by
        rw [Bool.eq_iff_iff,List.isEmpty_iff,decide_eq_true_eq,List.drop_eq_nil_iff,bys_len]
        omega
       by_cases h32 : x = 32 ∧ j + 1 = s.size
       ·have t32 : ((x.toNat : Int) == 32) = true:=byte_is (k:=32) (by decide) h32.1
        have tj : ((j : Int) == 0) = false:=by rw [t0j,decide_eq_false];exact fun h=>hbad ⟨h,.inl h32.1⟩
        have te : ((j : Int) == (s.size : Int) - 1) = true:=by rw [beq_iff_eq];omega
        have HF : Hid (valueB (bys s) = none):=by show _ = _;rw [← HR.out,hd.out,hP,if_pos (by rw [hemp,h32.1,decide_eq_true h32.2];rfl)]
        clear h92 h0 hP hsp hemp h32 hbad t0j
        go_wp2_with (first
         | (go_at_call 139;(with_reducible refine (special_any x _).mono ?_);rintro e w4 ⟨he4,rfl⟩;rw [HSP.out] at he4;subst he4))
        go_ret2
        exact ⟨by rw [HF.out];rfl,HG.out.ext⟩
       ·have HH : Hid (readF (acc ++ [x]) ((bys s).drop (j + 1)) = valueB (bys s)):=by
         show _ = _
         rw [← HR.out,hd.out,hP,if_neg]
         rw [hemp,hsp]
         simp [h0]
         exact fun e=>fun e2=>h32 ⟨e,e2⟩
        have tt : (((x.toNat : Int) == 32) = true ∧ ((j : Int) == 0) = false ∧ ((j : Int) == (s.size : Int) - 1) = false ∧ ((x.toNat : Int) == 35) = false) ∨ (((x.toNat : Int) == 32) = false ∧ ((x.toNat : Int) == 35) = true ∧ ((j : Int) == 0) = false) ∨ (((x.toNat : Int) == 32) = false ∧ ((x.toNat : Int) == 35) = false):=by
         by_cases h3 : x = 32
         ·left
          refine ⟨byte_is (k:=32) (by decide) h3,?_,?_,byte_isnt (k:=35) (by rw [h3];decide)⟩
          ·rw [t0j,decide_eq_false];exact fun h=>hbad ⟨h,.inl h3⟩
          ·rw [beq_eq_false_iff_ne]
           intro e
           exact h32 ⟨h3,by omega⟩
         ·by_cases h5 : x = 35
          ·right;left
           refine ⟨byte_isnt (k:=32) h3,byte_is (k:=35) (by decide) h5,?_⟩
           rw [t0j,decide_eq_false];exact fun h=>hbad ⟨h,.inr h5⟩
          ·exact .inr (.inr ⟨byte_isnt (k:=32) h3,byte_isnt (k:=35) h5⟩)
        clear h92 h0 hP hsp hemp h32 hbad t0j
        rcases tt with ⟨t1,t2,t3,t4⟩ | ⟨t1,t2,t3⟩ | ⟨t1,t2⟩
        all_goals
         go_wp2_with (first
          | (go_at_call 139;(with_reducible refine (special_any x _).mono ?_);rintro e w4 ⟨he4,rfl⟩;rw [HSP.out] at he4;subst he4)
          | (at_builtin;refine append_grow rfl _ _ rfl _ _ rfl (HG.out.later (Ext.alloc _ _)) _ 1 1 [x] rfl (sl_char _ x) (by omega) ?_;intro v' w5 hg5;have HG5:=hid hg5;clear hg5))
         exact ⟨⟨j + 1,acc ++ [x],by omega,by go_num,by simp;omega,HG5,.inr ⟨by omega,HH⟩⟩,by simp [intOf];omega⟩
  ·obtain rfl : j = s.size:=by omega
   have HF : Hid (valueB (bys s) = some acc):=by
    show _ = _
    rcases HR0.out with ⟨h0,ha⟩ | ⟨_,h⟩
    ·rw [str_emp h0,ha];rfl
    ·rw [← h,drop_none (Nat.le_refl _)];rfl
   obtain ⟨A1,c1,rfl,hs1⟩:=HG.out.sl
   have hC:=hs1.conv wr (Ext.refl wr)
   clear hs1
   go_wp2
   go_ret2
   exact ⟨by rw [HF.out];rfl,HG.out.ext⟩
end Go.Proofs.YtejdpadhemeldaaGreatDoor
