/- Lemmas of the walk that the last text of this claim joins. -/
import Derived.Test.YtahahafhendgoaaGreatDoorZ06
import Derived.Test.YtahahafhendgoaaGreatDoorZ19
import Derived.Test.YtahahafhendgoaaGreatDoorZ12
import Derived.Test.YtahahafhendgoaaGreatDoorZ10
import Derived.Test.YtahahafhendgoaaGreatDoorZ08
import Derived.Test.YtahahafhendgoaaGreatDoorZ07
import Derived.Test.YtahahafhendgoaaGreatDoorZ22
import Derived.Test.YtahahafhendgoaaGreatDoorZ01
import Derived.Maps.OwnOps
import Derived.Maps.Views
import Derived.Maps.OwnSet
import Derived.StringKeys
import Derived.WalkSpells
import Derived.Calls
import Derived.Listen
import Derived.Shelf.SlSortCmp.NoneTotal
import Derived.Lib.QuietBelow
import Derived.Laws.AppendOwn
set_option maxHeartbeats 40000000
set_option linter.unusedVariables false
set_option linter.unusedSimpArgs false
namespace Go.Proofs.YtahahafhendgoaaGreatDoor
open Go.RowKit
structure Ent where
 name : ByteArray
 atts : List Att
def Elem.ent : Elem Ent:=
 ⟨2,by decide,fun S w v a=>∃ A n c,v = [.string a.name,.slice A n c] ∧ Row Elem.att S w A n c a.atts,fun ⟨_,_,_,h,_⟩=>by rw [h];rfl,fun ⟨A,n,c,h,hr⟩ hk=>⟨A,n,c,h,hr.same hk⟩,fun ⟨A,n,c,h,hr⟩ hs=>⟨A,n,c,h,hr.mono hs⟩⟩
end Go.Proofs.YtahahafhendgoaaGreatDoor
namespace Go.Proofs.YtahahafhendgoaaGreatDoor
open Go.RowKit
set_option maxRecDepth 100000
theorem own_cells_one {w : World} {base : Nat} {e : TypeId} {size n : Nat} {v : Value} {xs ys : List Value} (h : w.ownsRow base e size v n xs) (k : w.ownsRow base e size v n ys) : ys = xs:=by
 rcases k.2 with ⟨_,z1⟩ | ⟨g,cap,cur,e3,e4,e5,e6,e7,e8,e9⟩
 ·have z2:=k.1
  have z3:=h.1
  rw [z1,Nat.zero_mul] at z2 z3
  rw [List.eq_nil_of_length_eq_zero z2,List.eq_nil_of_length_eq_zero z3]
 ·rcases h.2 with ⟨z0,z1⟩ | ⟨g',cap',cur',f3,f4,f5,f6,f7,f8,f9⟩
  ·rw [e3] at z0;cases z0
  ·rw [e3] at f3
   injection f3 with f3 _ f3'
   injection f3 with f3
   injection f3 with f3
   subst f3
   rw [e5] at f5
   injection f5 with f5
   injection f5 with f5
   subst f5
   rw [← e9,← f9]
section
variable {α : Type} {E : Elem α} {w w0 : World} {o : Oper} {a : Act} {K : Act → World → Prop} {Q : Exit → Act → World → Prop} {ops : Array Oper} {rest : List Oper}
theorem append_el_wp {T ST : TypeId} {z : Value} {bytes : Nat} (hu : Tryz.prog.underlying ST = some (.slice T)) (hinf : (Tryz.prog.info? T).map (fun i=>(i.zero,i.size,i.bytes)) = some (some z,E.k,bytes)) (hzs : z.cells.size = E.k) (hby : bytes ≤ 1000)
 (s x : Operand) (ho : o.op = .call { callee:=.builtin .append,args:=#[s,x],argTypes:=#[ST,ST] }) {L : Option Nat} (v : Value) (l : List α) (hs : a.eval s = v) (hg : GrowR E T L w0 w v l)
 {t : TypeId} {u : List Value} (y : α) (hE : E.R (inner w0 v L) w u y) (h1 : ∀ c ∈ u,c.oneCell' = true) {g : Nat} (hx : a.eval x = .slice (some ⟨g,0,none⟩) 1 1) (hgs : g = w.heap.size) (hb : l.length ≤ 4000000)
 (h : ∀ v' w',GrowR E T L w0 w' v' (l ++ [y]) → (w.alloc (.cells u.toArray t)).grownBy w' v.ownBlock → Below w0.heap.size (w.alloc (.cells u.toArray t)) w' → K (a.put o.dst v') w') :
 o.wp Tryz.prog a (w.alloc (.cells u.toArray t)) K Q:=by
 subst hgs
 have hg2:=hg.later (Ext.alloc w (.cells u.toArray t))
 have hk : u.length = E.k:=E.len hE
 obtain ⟨⟨vss,q1,q2,q3⟩,q4,q5⟩:=hg2
 refine wp_append_sz s x ST ho w0.heap.size T z E.k bytes hu hinf hzs E.pos v l.length vss.flatten hs q2 _ 1 1 u hx (by rw [hk,Nat.one_mul]) (.inr ⟨_,0,rfl,fun j c hj=>by rw [Nat.zero_add,box_a];simpa using hj⟩)
  h1 (by simp [maxLen];omega) (Nat.le_trans (Nat.mul_le_mul (Nat.add_le_add_right hb 1) hby) (by decide)) (ext_sz q4) ?_
 intro v' w' p1 p2 p3
 have hE' : E.R (inner w0 v L) (w.alloc (.cells u.toArray t)) u y:=elem_keep hE (fun b _ hlt=>(Ext.alloc w (.cells u.toArray t)).block b hlt) (fun b hS _=>hS)
 obtain ⟨k1,k2⟩:=(hg.later (Ext.alloc w (.cells u.toArray t))).snoc (v':=v') (w':=w') hE' (fun vs' hvs'=>by rw [own_cells_one q2 hvs'];exact p1) p2 p3
 exact h v' w' k1 p2 k2
theorem append_el {T ST : TypeId} {z : Value} {bytes : Nat} (hu : Tryz.prog.underlying ST = some (.slice T)) (hinf : (Tryz.prog.info? T).map (fun i=>(i.zero,i.size,i.bytes)) = some (some z,E.k,bytes)) (hzs : z.cells.size = E.k) (hby : bytes ≤ 1000)
 (hgd : o.guard = none) (s x : Operand) (ho : o.op = .call { callee:=.builtin .append,args:=#[s,x],argTypes:=#[ST,ST] }) {L : Option Nat} (v : Value) (l : List α) (hs : a.eval s = v) (hg : GrowR E T L w0 w v l)
 {t : TypeId} {u : List Value} (y : α) (hE : E.R (inner w0 v L) w u y) (h1 : ∀ c ∈ u,c.oneCell' = true) {g : Nat} (hx : a.eval x = .slice (some ⟨g,0,none⟩) 1 1) (hgs : g = w.heap.size) (hb : l.length ≤ 4000000)
 (h : ∀ v' w',GrowR E T L w0 w' v' (l ++ [y]) → (w.alloc (.cells u.toArray t)).grownBy w' v.ownBlock → Below w0.heap.size (w.alloc (.cells u.toArray t)) w' → wpList Tryz.prog ops Q rest (a.put o.dst v') w') :
 wpList Tryz.prog ops Q (o :: rest) a (w.alloc (.cells u.toArray t)):=
 wpList_plain hgd fun _ hK=>append_el_wp hu hinf hzs hby s x ho v l hs hg y hE h1 hx hgs hb fun v' w' k1 k2 k3=>hK _ _ (h v' w' k1 k2 k3)
end
end Go.Proofs.YtahahafhendgoaaGreatDoor
namespace Go.Proofs.YtahahafhendgoaaGreatDoor
open Go.RowKit
set_option maxRecDepth 100000
theorem ret_cell1 {P : Program} {fn : Func} {R : Ending → World → Prop} {a : Act} {w0 w : World} {p : Tmp} {ty : TypeId} {g : Nat} {T : TypeId} {cs : Array Value} (d : TypeDesc) (h : fn.results = #[.cell p ty])
 (hp : a.tmps.getD p undef = .pointer (some ⟨g,0,none⟩)) (hb : Bx w0 w g T cs) (hu : P.underlying ty = some d) (hd : (match d with | .struct _ | .array _ _=>true | _=>false) = true) (hi : (P.info? ty).map (·.size) = some cs.size)
 (hdf : a.defers = []) (hR : R (.returned (.agg cs)) w) : bodyPost P fn R .ret a w:=by
 refine bodyPost_ret (v:=.agg cs) ?_ hdf hR
 exact results_cell_row h a.tmps w g T cs (0,0) d hp hb.blk hu hd hi
section
variable {w w0 : World} {o : Oper} {a : Act} {K : Act → World → Prop} {Q : Exit → Act → World → Prop}
end
theorem infoAtt : (Tryz.prog.info? 53).map (fun i=>(i.zero,i.size,i.bytes)) = some (some (.agg #[.string ByteArray.empty,.slice none 0 0]),Elem.att.k,40):=by kernel_rfl
theorem infoEnt : (Tryz.prog.info? 48).map (fun i=>(i.zero,i.size,i.bytes)) = some (some (.agg #[.string ByteArray.empty,.slice none 0 0]),Elem.ent.k,40):=by kernel_rfl
theorem cell_lb {w wr : World} {B : Nat} {p : Addr} {v : Value} (h : w.cell? p = some v) (hp : p.block < B) (hx : Below B w wr) : ∀ w',Below B wr w' → w'.cell? p = some v:=fun w' h'=>by
 rw [Below.cell (Below.trans hx h') hp]
 exact h
end Go.Proofs.YtahahafhendgoaaGreatDoor
namespace Go.Proofs.YtahahafhendgoaaGreatDoor
theorem loB_again (c : UInt8) : loB (loB c) = loB c:=by
 unfold loB
 by_cases h : 65 ≤ c.toNat ∧ c.toNat ≤ 90
 ·rw [if_pos h]
  have e : (UInt8.ofNat (c.toNat + 32)).toNat = c.toNat + 32:=by rw [UInt8.toNat_ofNat'];omega
  rw [if_neg (by rw [e];omega)]
 ·rw [if_neg h,if_neg h]
theorem splitSp_noblank : ∀ (l cur : List UInt8),(32 : UInt8) ∉ cur → ∀ x ∈ splitSp cur l,(32 : UInt8) ∉ x
 | [],cur,h,x,hx=>by simp [splitSp] at hx;rw [hx];exact h
 | c :: t,cur,h,x,hx=>by
  unfold splitSp at hx
  by_cases hc : c = 32
  ·rw [if_pos hc] at hx
   rcases List.mem_cons.1 hx with e | e
   ·rw [e];exact h
   ·exact splitSp_noblank t [] (by simp) x e
  ·rw [if_neg hc] at hx
   exact splitSp_noblank t _ (by simp [h,Ne.symm hc]) x hx
theorem splitSp_from : ∀ (l cur : List UInt8),∀ x ∈ splitSp cur l,∀ b ∈ x,b ∈ cur ∨ b ∈ l
 | [],cur,x,hx,b,hb=>by simp [splitSp] at hx;rw [hx] at hb;exact .inl hb
 | c :: t,cur,x,hx,b,hb=>by
  unfold splitSp at hx
  by_cases hc : c = 32
  ·rw [if_pos hc] at hx
   rcases List.mem_cons.1 hx with e | e
   ·rw [e] at hb;exact .inl hb
   ·rcases splitSp_from t [] x e b hb with h | h
    ·cases h
    ·exact .inr (by simp [h])
  ·rw [if_neg hc] at hx
   rcases splitSp_from t _ x hx b hb with h | h
   ·rcases List.mem_append.1 h with h | h
    ·exact .inl h
    ·simp at h;exact .inr (by simp [h])
   ·exact .inr (by simp [h])
theorem split_join : ∀ ws : List (List UInt8),ws ≠ [] → (∀ x ∈ ws,(32 : UInt8) ∉ x) → splitSp [] (joinSp ws) = ws
 | [],h,_=>absurd rfl h
 | [x],_,h=>by simp only [joinSp];rw [splitSp_none x [] (h x (by simp))];rfl
 | x :: y :: t,_,h=>by
  simp only [joinSp]
  rw [splitSp_hit x [] _ (h x (by simp)),split_join (y :: t) (by simp) (fun z hz=>h z (by simp [hz]))]
  rfl
theorem joinSp_cons_le (x : List UInt8) : ∀ ws : List (List UInt8),(joinSp (x :: ws)).length ≤ x.length + 1 + (joinSp ws).length
 | []=>by simp [joinSp]
 | y :: t=>by simp [joinSp];omega
theorem words_short : ∀ (l cur : List UInt8),(joinSp ((splitSp cur l).filter fun x=>decide (x ≠ []))).length ≤ cur.length + l.length
 | [],cur=>by
  simp only [splitSp]
  by_cases h : cur = []
  ·simp [h,joinSp]
  ·simp [h,joinSp]
 | c :: t,cur=>by
  unfold splitSp
  by_cases hc : c = 32
  ·rw [if_pos hc]
   have ih:=words_short t []
   simp only [List.length_nil] at ih
   by_cases h : cur = []
   ·rw [List.filter_cons,if_neg (by simp [h])]
    simp only [List.length_cons];omega
   ·rw [List.filter_cons,if_pos (by simp [h])]
    have:=joinSp_cons_le cur ((splitSp [] t).filter fun x=>decide (x ≠ []))
    simp only [List.length_cons];omega
  ·rw [if_neg hc]
   have ih:=words_short t (cur ++ [c])
   simp only [List.length_append,List.length_cons,List.length_nil] at ih ⊢
   omega
theorem textN_again {v u : List UInt8} (h : textN v = some u) : textN u = some u ∧ u ≠ [] ∧ u.length ≤ v.length:=by
 unfold textN at h
 simp only at h
 split at h
 ·cases h
 ·rename_i hn
  injection h with h
  obtain ⟨ws,hws⟩ : ∃ ws,ws = wordsB (lowerB v):=⟨_,rfl⟩
  rw [← hws] at h hn
  have hlen : u.length ≤ v.length:=by
   have:=words_short (lowerB v) []
   rw [← h,hws]
   simp only [List.length_nil,Nat.zero_add] at this
   have e : (lowerB v).length = v.length:=by simp [lowerB]
   rw [e] at this
   exact this
  have hne : ws ≠ []:=fun e=>hn (.inl (by rw [e];rfl))
  have h1 : ∀ x ∈ ws,x ≠ [] ∧ (32 : UInt8) ∉ x ∧ ∀ b ∈ x,loB b = b:=by
   intro x hx
   rw [hws] at hx
   obtain ⟨hm,hx0⟩:=List.mem_filter.1 hx
   refine ⟨by simpa using hx0,splitSp_noblank _ _ (by simp) x hm,fun b hb=>?_⟩
   rcases splitSp_from _ _ x hm b hb with e | e
   ·cases e
   ·obtain ⟨c,_,rfl⟩:=List.mem_map.1 e
    exact loB_again c
  have hlo : lowerB u = u:=by
   unfold lowerB
   conv=>rhs;rw [← List.map_id u]
   refine List.map_congr_left fun b hb=>?_
   show loB b = b
   by_cases hb32 : b = 32
   ·rw [hb32];rfl
   ·rw [← h] at hb
    obtain ⟨x,hx,hbx⟩:=(mem_joinSp b hb32 ws).1 hb
    exact (h1 x hx).2.2 b hbx
  have hw : wordsB u = ws:=by
   unfold wordsB
   rw [← h,split_join ws hne (fun x hx=>(h1 x hx).2.1),List.filter_eq_self]
   intro x hx
   exact decide_eq_true (h1 x hx).1
  refine ⟨?_,fun e=>hn (.inl (by rw [h,e])),hlen⟩
  unfold textN
  simp only [hlo,hw]
  rw [if_neg hn,h]
theorem normB_again {k : Nat} {v u : List UInt8} (h : normB k v = some u) : normB k u = some u:=by
 unfold normB at h
 split at h
 ·cases h
 rename_i h0
 by_cases h1 : k = 1
 ·rw [if_pos h1] at h
  obtain ⟨a,b,c⟩:=textN_again h
  unfold normB
  rw [if_neg (by rintro (e | e);exact b e;exact h0 (.inr (by omega))),if_pos h1,a]
 ·rw [if_neg h1] at h
  by_cases h3 : k = 3
  ·rw [if_pos h3] at h
   split at h
   ·rename_i hi
    injection h with h
    subst h
    unfold normB
    rw [if_neg h0,if_neg h1,if_pos h3,if_pos hi]
   ·cases h
  ·rw [if_neg h3] at h;cases h
theorem digit_ok : ∀ n < 16,hexB (digitB n) = some n ∧ specB (digitB n) = false ∧ digitB n ≠ 35 ∧ digitB n ≠ 61 ∧ digitB n ≠ 32 ∧ digitB n ≠ 92 ∧ digitB n ≠ 44 ∧ digitB n ≠ 43:=by decide
theorem writeF_nil {b : Bool} {t : List UInt8} : (writeF b t).isEmpty = t.isEmpty:=by
 cases t with
 | nil=>rfl
 | cons c t=>
  simp only [writeF]
  split
  ·rfl
  ·split <;> rfl
theorem read_write : ∀ (v : List UInt8) (b : Bool) (acc : List UInt8),readF acc (writeF b v) = some (acc ++ v)
 | [],b,acc=>by simp [writeF,readF]
 | c :: t,b,acc=>by
  have ih:=fun a=>read_write t false a
  by_cases h1 : ((c == 32 && (b || t.isEmpty)) || (c == 35 && b) || specB c) = true
  ·rw [writeF,if_pos h1]
   have h2 : (specB c || c == 35 || c == 61 || c == 32) = true:=by
    simp only [Bool.or_eq_true,Bool.and_eq_true] at h1 ⊢
    rcases h1 with (h1 | h1) | h1
    ·exact .inr h1.1
    ·exact .inl (.inl (.inr h1.1))
    ·exact .inl (.inl (.inl h1))
   show readF acc (92 :: c :: writeF false t) = _
   rw [readF.eq_def]
   simp only [if_true,h2,ih]
   simp
  ·rw [writeF,if_neg h1]
   by_cases h3 : c.toNat < 32 ∨ 126 < c.toNat
   ·rw [if_pos h3]
    have hc:=c.toNat_lt
    obtain ⟨d1,d2,d3,d4,d5,-,-,-⟩:=digit_ok (c.toNat / 16) (by omega)
    obtain ⟨e1,-⟩:=digit_ok (c.toNat % 16) (by omega)
    show readF acc (92 :: digitB (c.toNat / 16) :: digitB (c.toNat % 16) :: writeF false t) = _
    rw [readF.eq_def]
    have h4 : (specB (digitB (c.toNat / 16)) || digitB (c.toNat / 16) == 35 || digitB (c.toNat / 16) == 61 || digitB (c.toNat / 16) == 32) = false:=by simp [d2,d3,d4,d5]
    simp only [if_true,h4,d1,e1,ih,Bool.false_eq_true,if_false]
    have h5 : UInt8.ofNat (16 * (c.toNat / 16) + c.toNat % 16) = c:=by
     rw [show 16 * (c.toNat / 16) + c.toNat % 16 = c.toNat by omega]
     exact UInt8.ofNat_toNat
    rw [h5]
    simp
   ·rw [if_neg h3]
    show readF acc (c :: writeF false t) = _
    have hc92 : c ≠ 92:=by
     intro e
     subst e
     exact h1 (by simp [specB])
    have hc0 : c ≠ 0:=by
     intro e
     subst e
     exact h3 (.inl (by decide))
    have hs : specB c = false:=by
     cases hs : specB c with
     | false=>rfl
     | true=>exact absurd (by rw [hs];simp) h1
    have hb : (c == 32 && (writeF false t).isEmpty) = false:=by
     rw [writeF_nil]
     cases hq : (c == 32 && t.isEmpty) with
     | false=>rfl
     | true=>
      rw [Bool.and_eq_true] at hq
      exact absurd (by rw [hq.1,hq.2];simp) h1
    rw [readF.eq_def]
    simp only [if_neg hc92]
    rw [if_neg (by rw [hs,hb];simp [hc0]),ih]
    simp
theorem value_write {v : List UInt8} : valueB (writeF true v) = some v:=by
 unfold valueB
 have hh : ¬ ((writeF true v).head? = some 32 ∨ (writeF true v).head? = some 35):=by
  cases v with
  | nil=>simp [writeF]
  | cons c t=>
   by_cases h1 : ((c == 32 && (true || t.isEmpty)) || (c == 35 && true) || specB c) = true
   ·rw [writeF,if_pos h1];simp
   ·rw [writeF,if_neg h1]
    have h32 : c ≠ 32:=by rintro rfl;exact h1 (by simp)
    have h35 : c ≠ 35:=by rintro rfl;exact h1 (by simp)
    split
    ·simp
    ·simp [h32,h35]
 rw [if_neg hh,read_write]
 rfl
def clos (sep : UInt8) : List UInt8 → Bool
 | []=>true
 | c :: t=>
  if c = sep then false
  else if c = 92 then
   match t with
   | []=>false
   | _ :: t=>clos sep t
  else clos sep t
theorem split_clos (sep : UInt8) : ∀ (n : Nat) (x : List UInt8),x.length ≤ n → clos sep x = true → ∀ cur r,splitF sep cur (x ++ r) = splitF sep (cur ++ x) r
 | _,[],_,_,cur,r=>by simp
 | 0,c :: t,hn,_,_,_=>by simp at hn
 | n + 1,c :: t,hn,h,cur,r=>by
  simp only [List.length_cons] at hn
  rw [clos.eq_def] at h
  simp only at h
  by_cases h1 : c = sep
  ·rw [if_pos h1] at h;cases h
  rw [if_neg h1] at h
  by_cases h2 : c = 92
  ·rw [if_pos h2] at h
   cases t with
   | nil=>cases h
   | cons d t=>
    simp only [List.length_cons] at hn
    show splitF sep cur (c :: d :: (t ++ r)) = _
    rw [splitF.eq_def]
    simp only [if_neg h1,if_pos h2]
    rw [split_clos sep n t (by omega) h,h2]
    simp
  ·rw [if_neg h2] at h
   show splitF sep cur (c :: (t ++ r)) = _
   rw [splitF.eq_def]
   simp only [if_neg h1,if_neg h2]
   rw [split_clos sep n t (by omega) h]
   simp
theorem clos_append (sep : UInt8) : ∀ (n : Nat) (x y : List UInt8),x.length ≤ n → clos sep x = true → clos sep y = true → clos sep (x ++ y) = true
 | _,[],y,_,_,h=>h
 | 0,c :: t,y,hn,_,_=>by simp at hn
 | n + 1,c :: t,y,hn,h,k=>by
  simp only [List.length_cons] at hn
  rw [clos.eq_def] at h
  simp only at h
  by_cases h1 : c = sep
  ·rw [if_pos h1] at h;cases h
  rw [if_neg h1] at h
  by_cases h2 : c = 92
  ·rw [if_pos h2] at h
   cases t with
   | nil=>cases h
   | cons d t=>
    simp only [List.length_cons] at hn
    show clos sep (c :: d :: (t ++ y)) = true
    rw [clos.eq_def]
    simp only [if_neg h1,if_pos h2]
    exact clos_append sep n t y (by omega) h k
  ·rw [if_neg h2] at h
   show clos sep (c :: (t ++ y)) = true
   rw [clos.eq_def]
   simp only [if_neg h1,if_neg h2]
   exact clos_append sep n t y (by omega) h k
theorem clos_app {sep : UInt8} {x y : List UInt8} (h : clos sep x = true) (k : clos sep y = true) : clos sep (x ++ y) = true:=clos_append sep _ x y (Nat.le_refl _) h k
theorem clos_one {sep c : UInt8} {y : List UInt8} (h1 : c ≠ sep) (h2 : c ≠ 92) (k : clos sep y = true) : clos sep (c :: y) = true:=by
 rw [clos.eq_def]
 simp only [if_neg h1,if_neg h2]
 exact k
theorem clos_esc {sep c : UInt8} {y : List UInt8} (h1 : (92 : UInt8) ≠ sep) (k : clos sep y = true) : clos sep (92 :: c :: y) = true:=by
 rw [clos.eq_def]
 simp only [if_neg h1,if_true]
 exact k
theorem clos_write {sep : UInt8} (hs : sep = 44 ∨ sep = 43) : ∀ (v : List UInt8) (b : Bool),clos sep (writeF b v) = true
 | [],b=>rfl
 | c :: t,b=>by
  have ih:=clos_write hs t false
  have h92 : (92 : UInt8) ≠ sep:=by rcases hs with rfl | rfl <;> decide
  by_cases h1 : ((c == 32 && (b || t.isEmpty)) || (c == 35 && b) || specB c) = true
  ·rw [writeF,if_pos h1]
   exact clos_esc h92 ih
  ·rw [writeF,if_neg h1]
   by_cases h3 : c.toNat < 32 ∨ 126 < c.toNat
   ·rw [if_pos h3]
    have hc:=c.toNat_lt
    obtain ⟨-,-,-,-,-,e1,e2,e3⟩:=digit_ok (c.toNat % 16) (by omega)
    exact clos_esc h92 (clos_one (by rcases hs with rfl | rfl <;> assumption) e1 ih)
   ·rw [if_neg h3]
    have hs' : specB c = false:=by
     cases hq : specB c with
     | false=>rfl
     | true=>exact absurd (by rw [hq];simp) h1
    refine clos_one ?_ ?_ ih
    ·rintro rfl
     rcases hs with rfl | rfl <;> exact absurd hs' (by decide)
    ·rintro rfl
     exact absurd hs' (by decide)
theorem typ_clos : ∀ p ∈ typTab,clos 44 p.1 = true ∧ clos 43 p.1 = true ∧ (61 : UInt8) ∉ p.1 ∧ p.1 ≠ []:=by decide
theorem typeB_mem (n : List UInt8) : typeB n ∈ typTab ∨ typeB n = ([],0):=by
 unfold typeB
 cases h : typTab.find? (fun p=>lowerB p.1 == lowerB n) with
 | none=>exact .inr rfl
 | some p=>exact .inl (List.mem_of_find?_eq_some h)
def avaT (a : Ava) : List UInt8:=a.type ++ 61 :: writeF true a.val
theorem ok_type {a : Ava} (h : avaOk a = true) : typeB a.type ∈ typTab ∧ (typeB a.type).1 = a.type ∧ (typeB a.type).2 ≠ 0 ∧ (normB (typeB a.type).2 a.val).isSome = true:=by
 unfold avaOk at h
 rw [Bool.and_eq_true,Bool.and_eq_true,Bool.or_eq_true,decide_eq_true_eq,decide_eq_true_eq,decide_eq_true_eq] at h
 obtain ⟨⟨h1,h2⟩,h3⟩:=h
 refine ⟨?_,h1,by omega,h3⟩
 rcases typeB_mem a.type with h | h
 ·exact h
 ·rw [h] at h2;omega
theorem avaT_clos {a : Ava} (h : avaOk a = true) {sep : UInt8} (hs : sep = 44 ∨ sep = 43) : clos sep (avaT a) = true:=by
 obtain ⟨h1,h2,-,-⟩:=ok_type h
 have h3:=typ_clos _ h1
 rw [h2] at h3
 refine clos_app ?_ (clos_one ?_ (by decide) (clos_write hs _ _))
 ·rcases hs with rfl | rfl
  ·exact h3.1
  ·exact h3.2.1
 ·rcases hs with rfl | rfl <;> decide
theorem avaB_avaT {a : Ava} (h : avaOk a = true) : avaB (avaT a) = some a:=by
 obtain ⟨h1,h2,h3,-⟩:=ok_type h
 have h4:=typ_clos _ h1
 rw [h2] at h4
 unfold avaB avaT
 rw [cutEq_hit _ _ h4.2.2.1]
 simp only
 rw [if_neg h3,value_write,h2]
 rfl
theorem printF_split : ∀ l : List Ava,l ≠ [] → (∀ a ∈ l,avaOk a = true) → splitF 43 [] (printF l) = l.map avaT
 | [],h,_=>absurd rfl h
 | [a],_,h=>by
  have hc:=split_clos 43 _ (avaT a) (Nat.le_refl _) (avaT_clos (h a (by simp)) (.inr rfl)) [] []
  rw [List.append_nil,List.nil_append] at hc
  show splitF 43 [] (avaT a) = _
  rw [hc]
  rfl
 | a :: b :: t,_,h=>by
  have hc:=split_clos 43 _ (avaT a) (Nat.le_refl _) (avaT_clos (h a (by simp)) (.inr rfl)) [] (43 :: printF (b :: t))
  have ih:=printF_split (b :: t) (by simp) (fun x hx=>h x (by simp [hx]))
  have e : printF (a :: b :: t) = avaT a ++ 43 :: printF (b :: t):=by simp [printF,avaT]
  rw [e,hc,List.nil_append,splitF.eq_def]
  simp only [if_true]
  rw [ih]
  rfl
theorem printF_clos : ∀ l : List Ava,(∀ a ∈ l,avaOk a = true) → clos 44 (printF l) = true
 | [],_=>rfl
 | [a],h=>avaT_clos (h a (by simp)) (.inl rfl)
 | a :: b :: t,h=>by
  have e : printF (a :: b :: t) = avaT a ++ 43 :: printF (b :: t):=by simp [printF,avaT]
  rw [e]
  exact clos_app (avaT_clos (h a (by simp)) (.inl rfl)) (clos_one (by decide) (by decide) (printF_clos (b :: t) (fun x hx=>h x (by simp [hx]))))
theorem joinC_split : ∀ l : List (List UInt8),l ≠ [] → (∀ x ∈ l,clos 44 x = true) → splitF 44 [] (joinC l) = l
 | [],h,_=>absurd rfl h
 | [x],_,h=>by
  have hc:=split_clos 44 _ x (Nat.le_refl _) (h x (by simp)) [] []
  rw [List.append_nil,List.nil_append] at hc
  show splitF 44 [] x = _
  rw [hc]
  rfl
 | x :: y :: t,_,h=>by
  have hc:=split_clos 44 _ x (Nat.le_refl _) (h x (by simp)) [] (44 :: joinC (y :: t))
  have ih:=joinC_split (y :: t) (by simp) (fun z hz=>h z (by simp [hz]))
  show splitF 44 [] (x ++ 44 :: joinC (y :: t)) = _
  rw [hc,List.nil_append,splitF.eq_def]
  simp only [if_true]
  rw [ih]
theorem normA_again {l : List Ava} (h : l.all avaOk = true) : normA (normA l) = normA l ∧ (normA l).all avaOk = true:=by
 rw [List.all_eq_true] at h
 constructor
 ·unfold normA
  rw [List.map_map]
  refine List.map_congr_left fun a ha=>?_
  obtain ⟨-,-,-,h4⟩:=ok_type (h a ha)
  obtain ⟨u,hu⟩:=Option.isSome_iff_exists.1 h4
  simp only [Function.comp,hu,Option.getD_some,normB_again hu]
 ·rw [List.all_eq_true]
  intro b hb
  obtain ⟨a,ha,rfl⟩:=List.mem_map.1 hb
  have hk:=h a ha
  obtain ⟨-,-,-,h4⟩:=ok_type hk
  obtain ⟨u,hu⟩:=Option.isSome_iff_exists.1 h4
  unfold avaOk at hk ⊢
  simp only [hu,Option.getD_some,normB_again hu] at hk ⊢
  exact hk
theorem normA_rising : ∀ l : List Ava,risingB (normA l) = risingB l
 | []=>rfl
 | [a]=>rfl
 | a :: b :: t=>by
  have ih:=normA_rising (b :: t)
  unfold normA at ih ⊢
  simp only [List.map_cons,risingB] at ih ⊢
  rw [ih]
theorem normA_formed {l : List Ava} (h : formedA l = true) : formedA (normA l) = true:=by
 unfold formedA at h ⊢
 rw [Bool.and_eq_true,Bool.and_eq_true] at h
 rw [normA_rising,h.2,(normA_again h.1.2).2,show (normA l).length = l.length by simp [normA],h.1.1]
 rfl
theorem sortA_rising {l : List Ava} (h : formedA l = true) : sortA l = l:=by
 unfold formedA at h
 rw [Bool.and_eq_true,Bool.and_eq_true,Bool.and_eq_true,decide_eq_true_eq,decide_eq_true_eq] at h
 obtain ⟨⟨⟨h1,h2⟩,-⟩,h4⟩:=h
 match l,h2 with
 | [],_=>rfl
 | [a],_=>rfl
 | [a,b],_=>
  simp only [risingB,Bool.and_true] at h4
  simp [sortA,insA,h4]
 | [a,b,c],_=>
  simp only [risingB,Bool.and_true,Bool.and_eq_true] at h4
  have h5:=ltB_trans _ _ _ h4.1 h4.2
  simp [sortA,insA,h4.1,h4.2,h5]
theorem mapM_some {α β : Type} {f : α → Option β} {g : β → α} : ∀ {l : List β},(∀ x ∈ l,f (g x) = some x) → (l.map g).mapM f = some l
 | [],_=>rfl
 | x :: t,h=>by
  rw [List.map_cons,List.mapM_cons,h x (by simp),mapM_some (fun y hy=>h y (by simp [hy]))]
  rfl
theorem partB_print {l : List Ava} (h : formedA l = true) : partB (printF l) = some l:=by
 have hall : ∀ a ∈ l,avaOk a = true:=by
  unfold formedA at h
  rw [Bool.and_eq_true,Bool.and_eq_true] at h
  exact List.all_eq_true.1 h.1.2
 have hne : l ≠ []:=by
  rintro rfl
  cases h
 unfold partB
 rw [printF_split l hne hall,mapM_some (fun a ha=>avaB_avaT (hall a ha))]
 simp only
 rw [sortA_rising h,if_pos h]
theorem partB_formedN {s : List UInt8} {l : List Ava} (h : partB s = some l) : formedA l = true:=by
 unfold partB at h
 cases hm : (splitF 43 [] s).mapM avaB with
 | none=>rw [hm] at h;cases h
 | some k=>
  rw [hm] at h
  simp only at h
  split at h
  ·rename_i hf
   injection h with h
   rw [← h];exact hf
  ·cases h
theorem mapM_src {α β : Type} {f : α → Option β} : ∀ {x : List α} {l : List β},x.mapM f = some l → (∀ y ∈ l,∃ a ∈ x,f a = some y) ∧ l.length = x.length
 | [],l,h=>by simp at h;subst h;simp
 | a :: t,l,h=>by
  rw [List.mapM_cons] at h
  cases ha : f a with
  | none=>rw [ha] at h;cases h
  | some v=>
   rw [ha] at h
   cases hb : t.mapM f with
   | none=>rw [hb] at h;cases h
   | some w=>
    rw [hb] at h
    cases h
    obtain ⟨h1,h2⟩:=mapM_src hb
    refine ⟨fun y hy=>?_,by simp [h2]⟩
    rcases List.mem_cons.1 hy with e | e
    ·exact ⟨a,by simp,by rw [e];exact ha⟩
    ·obtain ⟨c,hc,hf⟩:=h1 y e
     exact ⟨c,by simp [hc],hf⟩
theorem joinC_ne {x : List UInt8} {t : List (List UInt8)} (h : x ≠ []) : joinC (x :: t) ≠ []:=by
 cases t with
 | nil=>exact h
 | cons y t=>simp [joinC]
theorem printF_ne {l : List Ava} (h : l ≠ []) : printF l ≠ []:=by
 match l,h with
 | [a],_=>simp [printF]
 | a :: b :: t,_=>simp [printF]
theorem parts_again {s : List UInt8} {l : List (List UInt8)} (h : partsB s = .ok l) : partsB (joinC l) = .ok l:=by
 unfold partsB at h
 by_cases h1 : 1000 < s.length
 ·rw [if_pos h1] at h;cases h
 rw [if_neg h1] at h
 by_cases h2 : s = []
 ·rw [if_pos h2] at h
  injection h with h
  subst h
  rfl
 rw [if_neg h2] at h
 by_cases h3 : 12 < (splitF 44 [] s).length
 ·rw [if_pos h3] at h;cases h
 rw [if_neg h3] at h
 cases hm : (splitF 44 [] s).mapM partB with
 | none=>rw [hm] at h;cases h
 | some k=>
  rw [hm] at h
  simp only at h
  by_cases h4 : 1000 < (joinC (k.map fun p=>printB (normA p))).length
  ·rw [if_pos h4] at h;cases h
  rw [if_neg h4] at h
  injection h with h
  obtain ⟨hk1,hk2⟩:=mapM_src hm
  have hlen:=(splitF_length 44 s.length [] s (Nat.le_refl _)).2.1
  have hf : ∀ p ∈ k,formedA p = true:=fun p hp=>by obtain ⟨a,-,ha⟩:=hk1 p hp;exact partB_formedN ha
  have hl : l = k.map fun p=>printF (normA p):=by
   rw [← h]
   refine List.map_congr_left fun p hp=>?_
   unfold printB
   rw [if_pos (normA_formed (hf p hp))]
  have hn : ∀ q ∈ k.map normA,formedA q = true:=by
   intro q hq
   obtain ⟨p,hp,rfl⟩:=List.mem_map.1 hq
   exact normA_formed (hf p hp)
  have hl2 : l = (k.map normA).map printF:=by rw [hl,List.map_map];rfl
  have hkne : k ≠ []:=by rintro rfl;simp at hk2;omega
  have hlne : l ≠ []:=by rw [hl];simp [hkne]
  have hcl : ∀ x ∈ l,clos 44 x = true:=by
   intro x hx
   rw [hl2] at hx
   obtain ⟨q,hq,rfl⟩:=List.mem_map.1 hx
   have:=hn q hq
   unfold formedA at this
   rw [Bool.and_eq_true,Bool.and_eq_true] at this
   exact printF_clos q (List.all_eq_true.1 this.1.2)
  have hsp:=joinC_split l hlne hcl
  have hjn : joinC l ≠ []:=by
   cases hk : l with
   | nil=>exact absurd hk hlne
   | cons x t=>
    refine joinC_ne ?_
    have hx : x ∈ (k.map normA).map printF:=by rw [← hl2,hk];simp
    obtain ⟨q,hq,rfl⟩:=List.mem_map.1 hx
    exact printF_ne (by rintro rfl;have:=hn _ hq;cases this)
  unfold partsB
  rw [if_neg (by rw [← h];exact h4),if_neg hjn,hsp,if_neg (by rw [hl,List.length_map,hk2];exact h3)]
  have hmm : l.mapM partB = some (k.map normA):=by
   rw [hl2]
   exact mapM_some fun q hq=>partB_print (hn q hq)
  rw [hmm]
  have e2 : (k.map normA).map (fun p=>printB (normA p)) = l:=by
   rw [hl2]
   refine List.map_congr_left fun q hq=>?_
   obtain ⟨p,hp,rfl⟩:=List.mem_map.1 hq
   have hfp:=hf p hp
   have ha : p.all avaOk = true:=by
    unfold formedA at hfp
    rw [Bool.and_eq_true,Bool.and_eq_true] at hfp
    exact hfp.1.2
   rw [(normA_again ha).1]
   unfold printB
   rw [if_pos (normA_formed hfp)]
  simp only [e2]
  rw [if_neg (by rw [← h];exact h4)]
end Go.Proofs.YtahahafhendgoaaGreatDoor
namespace Go.Proofs.YtahahafhendgoaaGreatDoor
open Go.RowKit
set_option maxRecDepth 100000
def outer (S : Nat → Prop) (v : Value) (L : Option Nat) : Nat → Prop:=fun b=>S b ∧ some b ≠ v.ownBlock ∧ some b ≠ L
structure GrowM {α : Type} (E : Elem α) (S : Nat → Prop) (T : TypeId) (L : Option Nat) (w wr : World) (v : Value) (l : List α) : Prop where
 rows : ∃ vss : List (List Value),vss.length = l.length ∧ wr.ownsRow w.heap.size T E.k v l.length vss.flatten ∧ (∀ (i : Nat) u x,vss[i]? = some u → l[i]? = some x → E.R (outer S v L) wr u x)
 ext : Ext w wr
 apart : ∀ g,L = some g → v.ownBlock ≠ some g ∧ w.heap.size ≤ g ∧ g < wr.heap.size
section
variable {α : Type} {E : Elem α} {S : Nat → Prop} {T : TypeId} {L : Option Nat} {w wr w' : World} {v : Value} {l : List α}
theorem GrowM.nil (hx : Ext w wr) (hL : ∀ g,L = some g → w.heap.size ≤ g ∧ g < wr.heap.size) : GrowM E S T L w wr (.slice none 0 0) []:=
 ⟨⟨[],rfl,World.ownsRow_nil _ _ _ _,fun i u x h=>by simp at h⟩,hx,fun g hg=>⟨by simp [Value.ownBlock],hL g hg⟩⟩
theorem GrowM.later (h : GrowM E S T L w wr v l) (hx : Ext wr w') : GrowM E S T L w w' v l:=by
 obtain ⟨⟨vss,h1,h2,h3⟩,h4,h5⟩:=h
 exact ⟨⟨vss,h1,own_ext h2 hx,fun i u x hi hl=>elem_keep (h3 i u x hi hl) (fun b _ hb=>hx.block b hb) (fun b hS _=>hS)⟩,h4.trans hx,fun g hg=>⟨(h5 g hg).1,(h5 g hg).2.1,Nat.lt_of_lt_of_le (h5 g hg).2.2 hx.size⟩⟩
theorem GrowM.setL {g : Nat} (h : GrowM E S T (some g) w wr v l) (i : Nat) (z : Value) : GrowM E S T (some g) w (wr.setCell ⟨g,i,none⟩ z) v l:=by
 obtain ⟨⟨vss,h1,h2,h3⟩,h4,h5⟩:=h
 obtain ⟨ha,hb,hc⟩:=h5 g rfl
 refine ⟨⟨vss,h1,?_,fun i' u x hi hl=>elem_keep (h3 i' u x hi hl) (fun b hS _=>heap_setCell_other _ _ _ _ (fun e=>hS.2.2 (by rw [e]))) (fun b hS _=>hS)⟩,h4.setCell hb _,fun g' hg=>⟨(h5 g' hg).1,(h5 g' hg).2.1,by simpa using (h5 g' hg).2.2⟩⟩
 obtain ⟨q1,q2⟩:=h2
 refine ⟨q1,?_⟩
 rcases q2 with q2 | ⟨k,cap,cur,e1,e2,e3,e4⟩
 ·exact .inl q2
 ·refine .inr ⟨k,cap,cur,e1,e2,?_,e4⟩
  rw [heap_setCell_other _ _ _ _ (fun e=>ha (by rw [e1];exact congrArg some e))]
  exact e3
theorem GrowM.row (h : GrowM E S T L w wr v l) : ∃ A c,v = .slice A l.length c ∧ Row E (fun b=>S b ∨ w.heap.size ≤ b) wr A l.length c l:=by
 obtain ⟨⟨vss,h1,h2,h3⟩,h4,h5⟩:=h
 obtain ⟨A,c,rfl⟩ : ∃ A c,v = .slice A l.length c:=by
  rcases h2.2 with ⟨rfl,h0⟩ | ⟨g,cap,cur,rfl,_⟩
  ·exact ⟨none,0,by rw [h0]⟩
  ·exact ⟨_,_,rfl⟩
 exact ⟨A,c,rfl,own_rows h2 rfl h1 (fun g hg=>.inr (h2.lt g hg).1) fun i u x hi hl=>E.mono (h3 i u x hi hl) fun b _ hS=>.inl hS.1⟩
theorem GrowM.lt (h : GrowM E S T L w wr v l) {b : Nat} (hb : v.ownBlock = some b) : w.heap.size ≤ b ∧ b < wr.heap.size:=by
 obtain ⟨⟨vss,h1,h2,h3⟩,h4,h5⟩:=h
 exact h2.lt b hb
theorem GrowM.free (h : GrowM E S T L w wr v l) : GrowM E S T none w wr v l:=by
 obtain ⟨⟨vss,q1,q2,q3⟩,q4,q5⟩:=h
 exact ⟨⟨vss,q1,q2,fun i u x hi hl=>E.mono (q3 i u x hi hl) fun b _ hb=>⟨hb.1,hb.2.1,by simp⟩⟩,q4,fun k hk=>by cases hk⟩
theorem GrowM.old {S' : Nat → Prop} {u : List Value} {x : α} (h : GrowM E S T L w wr v l) (hs : ∀ b,b < w.heap.size → S' b → S b) (hE : E.R S' w u x) : E.R (outer S v L) wr u x:=by
 obtain ⟨⟨vss,h1,h2,h3⟩,h4,h5⟩:=h
 have e1 : E.R (fun b=>S' b ∧ b < w.heap.size) w u x:=E.mono hE fun b hb hS=>⟨hS,hb⟩
 have e2 : E.R (fun b=>S' b ∧ b < w.heap.size) wr u x:=E.same e1 fun b hb=>h4.block b hb.2
 refine E.mono e2 fun b _ hb=>⟨hs b hb.2 hb.1,fun e=>?_,fun e=>?_⟩
 ·have:=(h2.lt b e.symm).1;omega
 ·have:=(h5 b e.symm).2.1;omega
theorem GrowM.new {S' : Nat → Prop} {u : List Value} {x : α} {w1 : World} (h : GrowM E S T L w wr v l) (hs : ∀ b,b < w1.heap.size → S' b → S b) (hS : ∀ b,S' b → b < w.heap.size ∨ wr.heap.size ≤ b) (hE : E.R S' w1 u x) : E.R (outer S v L) w1 u x:=by
 obtain ⟨⟨vss,h1,h2,h3⟩,h4,h5⟩:=h
 refine E.mono hE fun b hlt hb=>⟨hs b hlt hb,fun e=>?_,fun e=>?_⟩
 ·have h6:=h2.lt b e.symm
  have h7:=hS b hb
  omega
 ·have h6:=h5 b e.symm
  have h7:=hS b hb
  omega
theorem GrowM.snoc {v' : Value} {xs : List α} {us : List (List Value)} (h : GrowM E S T L w wr v l) (hlen : us.length = xs.length) (hx : ∀ (i : Nat) u x,us[i]? = some u → xs[i]? = some x → E.R (outer S v L) wr u x) (ho : ∀ vss,wr.ownsRow w.heap.size T E.k v l.length vss → w'.ownsRow w.heap.size T E.k v' (l.length + xs.length) (vss ++ us.flatten)) (hg : wr.grownBy w' v.ownBlock)
 (hb : v'.ownBlock = v.ownBlock ∨ v'.ownBlock = some wr.heap.size) : GrowM E S T L w w' v' (l ++ xs) ∧ Below w.heap.size wr w':=by
 obtain ⟨⟨vss,h1,h2,h3⟩,h4,h5⟩:=h
 have hbw : Below w.heap.size wr w':=below_grown h2 hg (ext_sz h4) (Nat.le_refl _)
 have hkeep : ∀ b,outer S v L b → b < wr.heap.size → w'.heap[b]? = wr.heap[b]?:=fun b hS hlt=>hg.block b hlt hS.2.1
 have hin : ∀ b,outer S v L b → b < wr.heap.size → outer S v' L b:=fun b hS hlt=>⟨hS.1,fun e=>by
  rcases hb with hb | hb
  ·exact hS.2.1 (by rw [e,hb])
  ·rw [hb] at e;injection e with e;omega,hS.2.2⟩
 refine ⟨⟨⟨vss ++ us,by simp [h1,hlen],?_,fun i u' x' hi hl=>?_⟩,Below.trans h4 hbw,fun g hgL=>?_⟩,hbw⟩
 ·rw [List.length_append,List.flatten_append]
  exact ho _ h2
 ·rcases Nat.lt_or_ge i vss.length with hlt | hge
  ·rw [List.getElem?_append_left hlt] at hi
   rw [List.getElem?_append_left (by omega)] at hl
   exact elem_keep (h3 i u' x' hi hl) hkeep hin
  ·rw [List.getElem?_append_right hge] at hi
   rw [List.getElem?_append_right (by omega),← h1] at hl
   exact elem_keep (hx _ u' x' hi hl) hkeep hin
 ·obtain ⟨ha,hb',hc⟩:=h5 g hgL
  refine ⟨?_,hb',Nat.lt_of_lt_of_le hc hg.size⟩
  rcases hb with hb | hb
  ·rw [hb];exact ha
  ·rw [hb];intro e;injection e with e;omega
end
section
variable {α : Type} {E : Elem α} {S : Nat → Prop} {w w0 : World} {o : Oper} {a : Act} {K : Act → World → Prop} {Q : Exit → Act → World → Prop} {ops : Array Oper} {rest : List Oper}
theorem append_m_wp {T ST : TypeId} {z : Value} {bytes : Nat} (hu : Tryz.prog.underlying ST = some (.slice T)) (hinf : (Tryz.prog.info? T).map (fun i=>(i.zero,i.size,i.bytes)) = some (some z,E.k,bytes)) (hzs : z.cells.size = E.k) (hby : bytes ≤ 1000)
 (s x : Operand) (ho : o.op = .call { callee:=.builtin .append,args:=#[s,x],argTypes:=#[ST,ST] }) {L : Option Nat} (v : Value) (l : List α) (hs : a.eval s = v) (hg : GrowM E S T L w0 w v l)
 {A : Option Addr} {m c : Nat} (us : List (List Value)) (ys : List α) (hlen : us.length = ys.length) (hE : ∀ (i : Nat) u y,us[i]? = some u → ys[i]? = some y → E.R (outer S v L) w u y) (h1 : ∀ c ∈ us.flatten,c.oneCell' = true) (hx : a.eval x = .slice A m c) (hm : m = ys.length) (hcs : Cells w A us.flatten) (hb : l.length + m ≤ 8000000)
 (h : ∀ v' w',GrowM E S T L w0 w' v' (l ++ ys) → w.grownBy w' v.ownBlock → Below w0.heap.size w w' → K (a.put o.dst v') w') :
 o.wp Tryz.prog a w K Q:=by
 have hg2:=hg
 obtain ⟨⟨vss,q1,q2,q3⟩,q4,q5⟩:=hg2
 have hlk : ∀ v ∈ us,v.length = E.k:=fun v hv=>by
  obtain ⟨j,hj,rfl⟩:=List.mem_iff_getElem.1 hv
  exact E.len (hE j us[j] (ys[j]'(by omega)) (List.getElem?_eq_getElem hj) (List.getElem?_eq_getElem (by omega)))
 have hfl : us.flatten.length = m * E.k:=by
  have e : ∀ (u : List (List Value)),(∀ v ∈ u,v.length = E.k) → u.flatten.length = u.length * E.k:=by
   intro u
   induction u with
   | nil=>intro _;simp
   | cons v t ih=>intro hh;rw [List.flatten_cons,List.length_append,ih (fun x hx=>hh x (by simp [hx])),hh v (by simp),List.length_cons,Nat.succ_mul];omega
  rw [e us hlk,hlen,hm]
 refine wp_append_sz s x ST ho w0.heap.size T z E.k bytes hu hinf hzs E.pos v l.length vss.flatten hs q2 A m c us.flatten hx hfl hcs h1 (by simp [maxLen];omega) (Nat.le_trans (Nat.mul_le_mul hb hby) (by decide)) (ext_sz q4) ?_
 intro v' w' p1 p2 p3
 obtain ⟨k1,k2⟩:=hg.snoc (v':=v') (w':=w') hlen hE (fun vs' hvs'=>by rw [own_cells_one q2 hvs',← hm];exact p1) p2 p3
 exact h v' w' k1 p2 k2
theorem append_m1_wp {T ST : TypeId} {z : Value} {bytes : Nat} (hu : Tryz.prog.underlying ST = some (.slice T)) (hinf : (Tryz.prog.info? T).map (fun i=>(i.zero,i.size,i.bytes)) = some (some z,E.k,bytes)) (hzs : z.cells.size = E.k) (hby : bytes ≤ 1000)
 (s x : Operand) (ho : o.op = .call { callee:=.builtin .append,args:=#[s,x],argTypes:=#[ST,ST] }) {L : Option Nat} (v : Value) (l : List α) (hs : a.eval s = v) (hg : GrowM E S T L w0 w v l)
 {t : TypeId} {u : List Value} (y : α) (hE : E.R (outer S v L) w u y) (h1 : ∀ c ∈ u,c.oneCell' = true) {g : Nat} (hx : a.eval x = .slice (some ⟨g,0,none⟩) 1 1) (hgs : g = w.heap.size) (hb : l.length ≤ 4000000)
 (h : ∀ v' w',GrowM E S T L w0 w' v' (l ++ [y]) → (w.alloc (.cells u.toArray t)).grownBy w' v.ownBlock → Below w0.heap.size (w.alloc (.cells u.toArray t)) w' → K (a.put o.dst v') w') :
 o.wp Tryz.prog a (w.alloc (.cells u.toArray t)) K Q:=by
 subst hgs
 refine append_m_wp hu hinf hzs hby s x ho v l hs (hg.later (Ext.alloc _ _)) [u] [y] rfl (fun i u' y' hi hy=>?_) (by simpa using h1) hx rfl (.inr ⟨_,0,rfl,fun j c hj=>by rw [Nat.zero_add,box_a];simpa using hj⟩) (by omega) h
 rcases i with _ | i
 ·simp at hi hy
  subst hi hy
  exact elem_keep hE (fun b _ hlt=>(Ext.alloc w (.cells u.toArray t)).block b hlt) (fun b hS _=>hS)
 ·simp at hi
theorem append_m {T ST : TypeId} {z : Value} {bytes : Nat} (hu : Tryz.prog.underlying ST = some (.slice T)) (hinf : (Tryz.prog.info? T).map (fun i=>(i.zero,i.size,i.bytes)) = some (some z,E.k,bytes)) (hzs : z.cells.size = E.k) (hby : bytes ≤ 1000)
 (hgd : o.guard = none) (s x : Operand) (ho : o.op = .call { callee:=.builtin .append,args:=#[s,x],argTypes:=#[ST,ST] }) {L : Option Nat} (v : Value) (l : List α) (hs : a.eval s = v) (hg : GrowM E S T L w0 w v l)
 {A : Option Addr} {m c : Nat} (us : List (List Value)) (ys : List α) (hlen : us.length = ys.length) (hE : ∀ (i : Nat) u y,us[i]? = some u → ys[i]? = some y → E.R (outer S v L) w u y) (h1 : ∀ c ∈ us.flatten,c.oneCell' = true) (hx : a.eval x = .slice A m c) (hm : m = ys.length) (hcs : Cells w A us.flatten) (hb : l.length + m ≤ 8000000)
 (h : ∀ v' w',GrowM E S T L w0 w' v' (l ++ ys) → w.grownBy w' v.ownBlock → Below w0.heap.size w w' → wpList Tryz.prog ops Q rest (a.put o.dst v') w') : wpList Tryz.prog ops Q (o :: rest) a w:=
 wpList_plain hgd fun _ hK=>append_m_wp hu hinf hzs hby s x ho v l hs hg us ys hlen hE h1 hx hm hcs hb fun v' w' k1 k2 k3=>hK _ _ (h v' w' k1 k2 k3)
theorem append_m1 {T ST : TypeId} {z : Value} {bytes : Nat} (hu : Tryz.prog.underlying ST = some (.slice T)) (hinf : (Tryz.prog.info? T).map (fun i=>(i.zero,i.size,i.bytes)) = some (some z,E.k,bytes)) (hzs : z.cells.size = E.k) (hby : bytes ≤ 1000)
 (hgd : o.guard = none) (s x : Operand) (ho : o.op = .call { callee:=.builtin .append,args:=#[s,x],argTypes:=#[ST,ST] }) {L : Option Nat} (v : Value) (l : List α) (hs : a.eval s = v) (hg : GrowM E S T L w0 w v l)
 {t : TypeId} {u : List Value} (y : α) (hE : E.R (outer S v L) w u y) (h1 : ∀ c ∈ u,c.oneCell' = true) {g : Nat} (hx : a.eval x = .slice (some ⟨g,0,none⟩) 1 1) (hgs : g = w.heap.size) (hb : l.length ≤ 4000000)
 (h : ∀ v' w',GrowM E S T L w0 w' v' (l ++ [y]) → (w.alloc (.cells u.toArray t)).grownBy w' v.ownBlock → Below w0.heap.size (w.alloc (.cells u.toArray t)) w' → wpList Tryz.prog ops Q rest (a.put o.dst v') w') :
 wpList Tryz.prog ops Q (o :: rest) a (w.alloc (.cells u.toArray t)):=
 wpList_plain hgd fun _ hK=>append_m1_wp hu hinf hzs hby s x ho v l hs hg y hE h1 hx hgs hb fun v' w' k1 k2 k3=>hK _ _ (h v' w' k1 k2 k3)
end
end Go.Proofs.YtahahafhendgoaaGreatDoor
namespace Go.Proofs.YtahahafhendgoaaGreatDoor
open Go.RowKit
set_option maxRecDepth 100000
def BoolSays (w : World) (e : Ending) (w' : World) : Prop:=∃ b : Bool,e = .returned (.bool b) ∧ Ext w w'
theorem BoolSays.of {w w' : World} {e : Ending} {b : Bool} (h : e = .returned (.bool b)) (hx : Ext w w') : BoolSays w e w':=⟨b,h,hx⟩
theorem rsmall09_any {S : Nat → Prop} {A : Option Addr} {n c : Nat} {w : World} {l : List Ent} (h : Row Elem.ent S w A n c l) : Calls Tryz.prog 12 #[.slice A n c] w (BoolSays w):=by
 have HR:=hid h
 have hn : n ≤ 9223372036854775807:=by have:=h.cap;have:=h.most;simp only [maxLen] at this;omega
 clear h
 go_enter Tryz.func12,Tryz.ntmps12
 go_wp2
 go_loopw [3,9] (fun z i wr=>∃ (j : Nat) (y : Int),j ≤ n ∧ i = .int .i64 j ∧ z = .int .i64 y ∧ Hid (Ext w wr)) (fun _ i _=>n - (intOf i).toNat)
 case atStart=>exact ⟨0,0,by omega,rfl,rfl,Ext.refl _⟩
 case round=>
  obtain ⟨j,y,hj,rfl,rfl,hx⟩:=hrel
  by_cases hlt : j < n
  ·obtain ⟨b1,o1,v1,x1,rfl,g1,-,⟨A1,n1,c1,rfl,r1⟩,q1⟩:=(HR.out.ext hx.out).at_ hlt
   have e10:=q1 0 _ rfl
   have e11:=q1 1 _ rfl
   simp only [Elem.ent,Nat.add_zero] at e10 e11
   have R1:=hid r1
   have hn1 : n1 ≤ 9223372036854775807:=by have:=r1.cap;have:=r1.most;simp only [maxLen] at this;omega
   clear q1 g1 r1
   go_wp2
   obtain ⟨wo,hwo⟩ : ∃ x,x = wr:=⟨_,rfl⟩
   subst hwo
   go_loopw [3,28] (fun z i wr=>∃ (k : Nat) (y : Int),k ≤ n1 ∧ i = .int .i64 k ∧ z = .int .i64 y ∧ wr = wo) (fun _ i _=>n1 - (intOf i).toNat)
   case atStart=>exact ⟨0,_,by omega,rfl,rfl,rfl⟩
   case round=>
    obtain ⟨k,y2,hk,rfl,rfl,rfl⟩:=hrel
    by_cases hlt2 : k < n1
    ·obtain ⟨b2,o2,v2,x2,rfl,g2,-,⟨A2,n2,c2,rfl,r2⟩,q2⟩:=R1.out.at_ hlt2
     have e20:=q2 0 _ rfl
     have e21:=q2 1 _ rfl
     simp only [Elem.att,Nat.add_zero] at e20 e21
     have R2:=hid r2
     have hn2 : n2 ≤ 9223372036854775807:=by have:=r2.cap;have:=r2.most;simp only [maxLen] at this;omega
     clear q2 g2 r2
     go_wp2
     obtain ⟨wp,hwp⟩ : ∃ x,x = wr:=⟨_,rfl⟩
     subst hwp
     go_loopw [3,54] (fun z i wr=>∃ (p : Nat) (y : Int),p ≤ n2 ∧ i = .int .i64 p ∧ z = .int .i64 y ∧ wr = wp) (fun _ i _=>n2 - (intOf i).toNat)
     case atStart=>exact ⟨0,_,by omega,rfl,rfl,rfl⟩
     case round=>
      obtain ⟨p,y3,hp,rfl,rfl,rfl⟩:=hrel
      by_cases hlt3 : p < n2
      ·obtain ⟨b3,o3,rfl,c3⟩:=R2.out.str_cell (by omega)
       have e30:=c3 p hlt3
       clear c3
       generalize x2.vals[p]?.getD ByteArray.empty = s3 at *
       go_wp2
       exact ⟨⟨p + 1,_,by omega,by go_num,rfl,by first | rfl | trivial⟩,by simp [intOf];omega⟩
      ·obtain rfl : p = n2:=by omega
       go_wp2
       exact ⟨⟨k + 1,_,by omega,by go_num,rfl,by first | rfl | trivial⟩,by simp [intOf];omega⟩
    ·obtain rfl : k = n1:=by omega
     go_wp2
     all_goals first
      | (go_ret;exact BoolSays.of rfl (hx.out))
      | exact ⟨⟨j + 1,_,by omega,by go_num,rfl,hx⟩,by simp [intOf];omega⟩
  ·obtain rfl : j = n:=by omega
   go_wp2
   go_ret
   exact BoolSays.of rfl (hx.out)
end Go.Proofs.YtahahafhendgoaaGreatDoor
namespace Go.Proofs.YtahahafhendgoaaGreatDoor
open Go.RowKit
structure Pre where
 r : World → World → Prop
 refl : ∀ w,r w w
 trans : ∀ {a b c : World},r a b → r b c → r a c
abbrev Pre.same (S : Nat → Prop) : Pre:=⟨Same S,Same.refl S,Same.trans⟩
theorem Same.alloc_of {S : Nat → Prop} {w : World} (h : ∀ b,S b → b < w.heap.size) (o : Obj) : Same S w (w.alloc o):=fun b hb=>(Ext.alloc w o).block b (h b hb)
theorem Same.set_of {S : Nat → Prop} {w : World} {g i : Nat} (h : ∀ b,S b → b ≠ g) (v : Value) : Same S w (w.setCell ⟨g,i,none⟩ v):=fun b hb=>Below.heap_setCell _ _ _ _ (h b hb)
section
variable {P : Program} {ops : Array Oper} {md : Region.Mode} {Q : Act → World → Prop} {B : Pre}
def staysR (B : Pre) (P : Program) (ops : Array Oper) (o : Oper) (v : Value) (a : Act) (w : World) : Prop:=
 (Region.wanted o (yielded ops a.tmps) = true ∧ ∀ w',B.r w w' → (execOp a.eval o).run P w' = .ok (.value v) w') ∨
 (Region.wanted o (yielded ops a.tmps) = false ∧ v = undef)
theorem staysR.comesUp {o : Oper} {v : Value} {a : Act} {w : World} {K : Act → World → Prop} (h : staysR B P ops o v a w) (hk : K (a.put o.dst v) w) : comesUp P ops o K a w:=by
 unfold Go.Proofs.YtahahafhendgoaaGreatDoor.comesUp
 rcases h with ⟨hw,hv⟩ | ⟨hw,rfl⟩
 ·rw [if_pos hw];unfold Oper.wp;rw [hv w (B.refl w)];exact hk
 ·rw [if_neg (by simp [hw])];exact hk
theorem staysR.later {o : Oper} {v : Value} {a : Act} {w w' : World} (h : staysR B P ops o v a w) (hx : B.r w w') : staysR B P ops o v a w':=by
 rcases h with ⟨hw,hv⟩ | h
 ·exact .inl ⟨hw,fun w2 h2=>hv w2 (B.trans hx h2)⟩
 ·exact .inr h
theorem staysR.same {o : Oper} {v : Value} {a a' : Act} {w : World} (h : staysR B P ops o v a w) (he : execOp a'.eval o = execOp a.eval o)
 (hw : Region.wanted o (yielded ops a'.tmps) = Region.wanted o (yielded ops a.tmps)) : staysR B P ops o v a' w:=by
 unfold staysR at *
 rw [he,hw]
 exact h
def anyOrderR (B : Pre) (P : Program) (md : Region.Mode) (ops : Array Oper) (Q : Act → World → Prop) : Nat → Array Bool → Act → World → Prop
 | 0,listed,a,w=>Region.ready md ops listed = [] ∧ Q a w
 | fuel + 1,listed,a,w=>(Region.ready md ops listed = [] → Q a w) ∧
  ∀ i ∈ Region.ready md ops listed,∀ o,ops[i]? = some o → comesUp P ops o (fun a' w'=>B.r w w' ∧ anyOrderR B P md ops Q fuel (listed.setIfInBounds i true) a' w') a w
theorem anyOrderR.wpAny {R : Exit → Act → World → Prop} (hQ : ∀ a w,Q a w → R .normal a w) :
 ∀ (fuel : Nat) (listed : Array Bool) (a : Act) (w : World),anyOrderR B P md ops Q fuel listed a w → Go.wpAny P md ops R fuel listed a w
 | 0,_,_,_,h=>⟨h.1,hQ _ _ h.2⟩
 | fuel + 1,listed,a,w,h=>by
  refine ⟨fun h0=>hQ _ _ (h.1 h0),fun i hi=>?_⟩
  obtain ⟨_,o,ho,_⟩:=mem_ready.1 hi
  have h1:=h.2 i hi o ho
  unfold comesUp at h1
  unfold wpOp
  simp only [ho]
  split
  ·rename_i hw
   rw [if_pos hw] at h1
   exact .inl (wp_of_noExit (Oper.wp_mono (fun a' w' hh=>anyOrderR.wpAny hQ fuel _ a' w' hh.2) h1))
  ·rename_i hw
   rw [if_neg hw] at h1
   exact anyOrderR.wpAny hQ fuel _ _ _ h1.2
theorem comesUp_beforeR {oi oj : Oper} {v : Value} (hap : oi.apart ops oj = true) (hsi : ∀ cs b,oi.op ≠ .select cs b) (hsj : ∀ cs b,oj.op ≠ .select cs b)
 {K : Act → World → Prop} {a : Act} {w : World}
 (h : comesUp P ops oj K (a.put oi.dst v) w) :
 comesUp P ops oj (fun a' w'=>(∀ w0,staysR B P ops oi v a w0 → staysR B P ops oi v a' w0) ∧ K (a'.put oi.dst v) w') a w:=by
 obtain ⟨h1,h2,h3⟩:=Oper.apart_spec hap
 have keep : ∀ (b : Act) (u : Value),b.eval = a.eval → b.tmps = a.tmps → ∀ w0,staysR B P ops oi v a w0 → staysR B P ops oi v (b.put oj.dst u) w0:=fun b u hb ht w0 hs=>
  (hs.same (a':=b) (by rw [hb]) (by rw [ht])).same (execOp_put oi hsi b oj.dst u h3) (wanted_put oi b oj.dst u h3)
 unfold comesUp at *
 rw [wanted_put oj a oi.dst v h1] at h
 split
 ·rename_i hw
  rw [if_pos hw] at h
  unfold Oper.wp at *
  rw [execOp_put oj hsj a oi.dst v h1] at h
  generalize (execOp a.eval oj).run P w = r at *
  cases r with
  | ok n w'=>
   cases n <;> simp only [Oper.upon] at h ⊢
   case value u=>exact ⟨keep a u rfl rfl,by rw [← Act.put_comm a v u h2];exact h⟩
   case skip=>exact ⟨keep a _ rfl rfl,by rw [← Act.put_comm a v undef h2];exact h⟩
   case defer d=>exact ⟨keep { a with defers:=d :: a.defers } _ rfl rfl,by rw [← Act.put_comm _ v undef h2,← Act.put_defers];exact h⟩
   case enter f args=>
    refine Calls.mono h fun e w'' he=>?_
    cases e with
    | returned u=>exact ⟨keep a u rfl rfl,by rw [← Act.put_comm a v u h2];exact he⟩
    | panicked c=>exact he
    | outgrown=>exact he
   case row row args=>exact Rows.mono h fun u w'' he=>⟨keep a u rfl rfl,by rw [← Act.put_comm a v u h2];exact he⟩
  | halt x w'=>cases x <;> simp only [Oper.upon] at h ⊢ <;> exact h
 ·rename_i hw
  rw [if_neg hw] at h
  exact ⟨keep a _ rfl rfl,by rw [← Act.put_comm a v undef h2];exact h⟩
theorem anyOrder_firstR {i : Nat} {oi : Oper} {v : Value} (hi : ops[i]? = some oi) (hsel : ∀ (j : Nat) (o : Oper) cs b,ops[j]? = some o → o.op ≠ .select cs b) :
 ∀ (fuel : Nat) (listed : Array Bool) (a : Act) (w : World),
  (∀ j oj,ops[j]? = some oj → j ≠ i → listed.getD j true = false → (∀ e ∈ oj.after,Region.binds md e = true → e.on ≠ i) → oi.apart ops oj = true) →
  i ∈ Region.ready md ops listed → staysR B P ops oi v a w →
  anyOrderR B P md ops Q fuel (listed.setIfInBounds i true) (a.put oi.dst v) w → anyOrderR B P md ops Q (fuel + 1) listed a w:=by
 intro fuel
 induction fuel with
 | zero=>
  intro listed a w _ hr hy H
  refine ⟨fun h=>(by rw [h] at hr;cases hr),fun j hj o ho=>?_⟩
  by_cases hji : j = i
  ·subst hji
   have : o = oi:=by rw [hi] at ho;exact (Option.some.inj ho).symm
   subst this
   exact hy.comesUp ⟨B.refl w,H⟩
  ·have:=ready_mono hj hji
   rw [H.1] at this
   cases this
 | succ fuel ih=>
  intro listed a w hfree hr hy H
  refine ⟨fun h=>(by rw [h] at hr;cases hr),fun j hj oj hoj=>?_⟩
  by_cases hji : j = i
  ·subst hji
   have : oj = oi:=by rw [hi] at hoj;exact (Option.some.inj hoj).symm
   subst this
   exact hy.comesUp ⟨B.refl w,H⟩
  ·have h1:=H.2 j (ready_mono hj hji) oj hoj
   obtain ⟨hjun,oj',hoj',hall⟩:=mem_ready.1 hj
   have : oj' = oj:=by rw [hoj] at hoj';exact (Option.some.inj hoj').symm
   subst this
   have hnot : ∀ e ∈ oj'.after,Region.binds md e = true → e.on ≠ i:=fun e he hb heq=>by
    have h1:=hall e he hb
    have h0:=(mem_ready.1 hr).1
    rw [heq] at h1
    rcases Nat.lt_or_ge i listed.size with h' | h'
    ·simp [h'] at h0 h1;rw [h0] at h1;cases h1
    ·simp [Array.getElem?_eq_none h'] at h1
   have h2:=comesUp_beforeR (B:=B) (hfree j oj' hoj hji hjun hnot) (fun cs b=>hsel i oi cs b hi) (fun cs b=>hsel j oj' cs b hoj) h1
   have hfree' : ∀ k ok,ops[k]? = some ok → k ≠ i → (listed.setIfInBounds j true).getD k true = false →
    (∀ e ∈ ok.after,Region.binds md e = true → e.on ≠ i) → oi.apart ops ok = true:=fun k ok hk hki hun hno=>by
    refine hfree k ok hk hki ?_ hno
    by_cases hjk : j = k
    ·subst hjk;exact hjun
    ·rw [getD_set_ne true hjk] at hun;exact hun
   refine h2.mono fun a' w' h3=>⟨h3.2.1,ih (listed.setIfInBounds j true) a' w' hfree' (ready_mono hr (Ne.symm hji)) ((h3.1 w hy).later h3.2.1) ?_⟩
   rw [Array.setIfInBounds_comm _ _ hji]
   exact h3.2.2
def walksR (B : Pre) (P : Program) (ops : Array Oper) (Q : Act → World → Prop) : Plan → Act → World → Prop
 | .done,a,w=>Q a w
 | .read i p,a,w=>∃ o v,ops[i]? = some o ∧ staysR B P ops o v a w ∧ walksR B P ops Q p (a.put o.dst v) w
 | .main i p,a,w=>∃ o,ops[i]? = some o ∧ comesUp P ops o (fun a' w'=>B.r w w' ∧ walksR B P ops Q p a' w') a w
 | .alt i p q,a,w=>(∃ o,ops[i]? = some o ∧ comesUp P ops o (fun a' w'=>B.r w w' ∧ walksR B P ops Q p a' w') a w) ∧ walksR B P ops Q q a w
theorem anyOrder_doneR {listed : Array Bool} {a : Act} {w : World} (hr : Region.ready md ops listed = []) (h : Q a w) : ∀ fuel,anyOrderR B P md ops Q fuel listed a w
 | 0=>⟨hr,h⟩
 | _ + 1=>⟨fun _=>h,by rw [hr];simp⟩
theorem anyOrder_of_planR (hs : Region.noSelect ops = true) : ∀ (fuel : Nat) (p : Plan),
 (∀ (listed : Array Bool) (a : Act) (w : World),p.size ≤ fuel → p.fits md ops false listed = true → walksR B P ops Q p a w → anyOrderR B P md ops Q fuel listed a w) ∧
 (∀ (listed : Array Bool) (a : Act) (w : World),p.size ≤ fuel + 1 → p.fits md ops true listed = true → walksR B P ops Q p a w →
   ∀ i ∈ p.heads,∀ o,ops[i]? = some o → comesUp P ops o (fun a' w'=>B.r w w' ∧ anyOrderR B P md ops Q fuel (listed.setIfInBounds i true) a' w') a w):=by
 have one : ∀ (fuel : Nat) (i : Nat) (p : Plan) (listed : Array Bool) (a : Act) (w : World),
  (∀ (a : Act) (w : World),walksR B P ops Q p a w → anyOrderR B P md ops Q fuel (listed.setIfInBounds i true) a w) →
  (∃ o,ops[i]? = some o ∧ comesUp P ops o (fun a' w'=>B.r w w' ∧ walksR B P ops Q p a' w') a w) →
  ∀ o,ops[i]? = some o → comesUp P ops o (fun a' w'=>B.r w w' ∧ anyOrderR B P md ops Q fuel (listed.setIfInBounds i true) a' w') a w:=by
  intro fuel i p listed a w ih ⟨o,ho,hc⟩ o' ho'
  have : o' = o:=by rw [ho] at ho';exact (Option.some.inj ho').symm
  subst this
  exact hc.mono fun a' w' hh=>⟨hh.1,ih a' w' hh.2⟩
 have second : ∀ (fuel : Nat),(∀ (p : Plan) (listed : Array Bool) (a : Act) (w : World),p.size ≤ fuel → p.fits md ops false listed = true → walksR B P ops Q p a w → anyOrderR B P md ops Q fuel listed a w) →
  ∀ (p : Plan) (listed : Array Bool) (a : Act) (w : World),p.size ≤ fuel + 1 → p.fits md ops true listed = true → walksR B P ops Q p a w →
  ∀ i ∈ p.heads,∀ o,ops[i]? = some o → comesUp P ops o (fun a' w'=>B.r w w' ∧ anyOrderR B P md ops Q fuel (listed.setIfInBounds i true) a' w') a w:=by
  intro fuel ih p
  induction p with
  | done=>intro _ _ _ _ hf;simp [Plan.fits] at hf
  | read i p _=>intro _ _ _ _ hf;simp [Plan.fits] at hf
  | main i p _=>
   intro listed a w hz hf hw j hj
   simp only [Plan.fits,Bool.true_or,Bool.true_and] at hf
   simp only [Plan.heads,List.mem_singleton] at hj
   subst hj
   exact one fuel j p listed a w (fun a' w' hh=>ih p _ a' w' (by simp [Plan.size] at hz;omega) hf hh) hw
  | alt i p q _ ihq=>
   intro listed a w hz hf hw j hj
   simp only [Plan.fits,Bool.true_or,Bool.true_and,Bool.and_eq_true] at hf
   simp only [Plan.size] at hz
   simp only [Plan.heads,List.mem_cons] at hj
   rcases hj with hj | hj
   ·subst hj
    exact one fuel j p listed a w (fun a' w' hh=>ih p _ a' w' (by omega) hf.1 hh) hw.1
   ·exact ihq listed a w (by omega) hf.2 hw.2 j hj
 have first : ∀ (fuel : Nat) (p : Plan) (listed : Array Bool) (a : Act) (w : World),p.size ≤ fuel → p.fits md ops false listed = true → walksR B P ops Q p a w → anyOrderR B P md ops Q fuel listed a w:=by
  intro fuel
  induction fuel with
  | zero=>
   intro p listed a w hz hf hw
   cases p with
   | done=>exact anyOrder_doneR (by simpa [Plan.fits] using hf) hw 0
   | read i p=>simp [Plan.size] at hz
   | main i p=>simp [Plan.size] at hz
   | alt i p q=>simp [Plan.size] at hz
  | succ fuel ih=>
   intro p listed a w hz hf hw
   cases p with
   | done=>exact anyOrder_doneR (by simpa [Plan.fits] using hf) hw _
   | read i p=>
    simp only [Plan.fits,Bool.not_false,Bool.true_and,Bool.and_eq_true] at hf
    obtain ⟨o,v,ho,hy,hw'⟩:=hw
    exact anyOrder_firstR ho (Region.noSelect_spec hs) fuel listed a w (Region.free_spec ho hf.1.2) (by simpa using hf.1.1) hy (ih p _ _ _ (by simp [Plan.size] at hz;omega) hf.2 hw')
   | main i p=>
    have hf0:=hf
    simp only [Plan.fits,Bool.false_or,Bool.and_eq_true,beq_iff_eq] at hf
    refine ⟨fun h0=>(by rw [hf.1] at h0;cases h0),fun j hj=>?_⟩
    rw [hf.1] at hj
    exact second fuel ih (.main i p) listed a w hz (by simp only [Plan.fits,Bool.true_or,Bool.true_and];exact hf.2) hw j hj
   | alt i p q=>
    simp only [Plan.fits,Bool.false_or,Bool.and_eq_true,beq_iff_eq] at hf
    refine ⟨fun h0=>(by rw [hf.1.1] at h0;cases h0),fun j hj=>?_⟩
    rw [hf.1.1] at hj
    exact second fuel ih (.alt i p q) listed a w hz (by simp only [Plan.fits,Bool.true_or,Bool.true_and,Bool.and_eq_true];exact ⟨hf.1.2,hf.2⟩) hw j hj
 intro fuel p
 exact ⟨first fuel p,second fuel (first fuel) p⟩
theorem wp_region_planR (B : Pre) {id : Nat} {R : Exit → Act → World → Prop} {a : Act} {w : World} (p : Plan) (hm : P.follows .mixedOrders = true)
 (hf : (Region.noSelect ops && p.fits .any ops false (Array.replicate ops.size false) && decide (p.size ≤ ops.size)) = true)
 (h : ∀ wD,Ext w wD → walksR B P ops (R .normal) p a wD) : (Code.region id ops true).wp P R a w:=by
 simp only [Bool.and_eq_true,decide_eq_true_eq] at hf
 exact wp_region_any hm (anyOrderR.wpAny (Q:=R .normal) (fun _ _ hq=>hq) _ _ _ _ ((anyOrder_of_planR (md:=.any) hf.1.1 ops.size p).1 _ _ _ hf.2 hf.1.2 (h w.drew (Ext.drew w))))
theorem walksR_done {a : Act} {w : World} (h : Q a w) : walksR B P ops Q .done a w:=h
theorem walksR_read {i : Nat} {p : Plan} {a : Act} {w : World} {d : Option Tmp} {op : Op} {ty : TypeId} {pos : String} {af : Array Edge} {gd : Option (Nat × Bool)} {v : Value}
 (ho : ops[i]? = some ⟨d,op,ty,pos,af,gd⟩) (hw : Region.wanted ⟨d,op,ty,pos,af,gd⟩ (yielded ops a.tmps) = true)
 (hv : ∀ w',B.r w w' → (execOp a.eval ⟨d,op,ty,pos,af,gd⟩).run P w' = .ok (.value v) w') (h : walksR B P ops Q p (a.put d v) w) : walksR B P ops Q (.read i p) a w:=⟨_,v,ho,.inl ⟨hw,hv⟩,h⟩
theorem walksR_move {i : Nat} {p : Plan} {a : Act} {w : World} {d : Option Tmp} {x : Operand} {ty : TypeId} {pos : String} {af : Array Edge} {gd : Option (Nat × Bool)}
 (ho : ops[i]? = some ⟨d,.move x,ty,pos,af,gd⟩) (hw : Region.wanted ⟨d,.move x,ty,pos,af,gd⟩ (yielded ops a.tmps) = true)
 (h : walksR B P ops Q p (a.put d (a.eval x)) w) : walksR B P ops Q (.read i p) a w:=walksR_read ho hw (fun _ _=>by simp [execOp]) h
theorem walksR_assign {i : Nat} {p : Plan} {a : Act} {w : World} {d : Option Tmp} {x : Operand} {ty : TypeId} {pos : String} {af : Array Edge} {gd : Option (Nat × Bool)}
 (ho : ops[i]? = some ⟨d,.assign x,ty,pos,af,gd⟩) (hw : Region.wanted ⟨d,.assign x,ty,pos,af,gd⟩ (yielded ops a.tmps) = true)
 (h : walksR B P ops Q p (a.put d (a.eval x)) w) : walksR B P ops Q (.read i p) a w:=walksR_read ho hw (fun _ _=>by simp [execOp]) h
theorem walksR_main {i : Nat} {p : Plan} {a : Act} {w : World} {d : Option Tmp} {op : Op} {ty : TypeId} {pos : String} {af : Array Edge} {gd : Option (Nat × Bool)}
 (ho : ops[i]? = some ⟨d,op,ty,pos,af,gd⟩) (hw : Region.wanted ⟨d,op,ty,pos,af,gd⟩ (yielded ops a.tmps) = true)
 (h : ∀ K : Act → World → Prop,(∀ a' w',B.r w w' → walksR B P ops Q p a' w' → K a' w') → Oper.wp P ⟨d,op,ty,pos,af,gd⟩ a w K noExit) : walksR B P ops Q (.main i p) a w:=by
 refine ⟨_,ho,?_⟩
 unfold comesUp
 rw [if_pos hw]
 exact h _ fun _ _ h1 h2=>⟨h1,h2⟩
theorem walksR_alt {i : Nat} {p q : Plan} {a : Act} {w : World} (h : walksR B P ops Q (.main i p) a w) (h' : walksR B P ops Q q a w) : walksR B P ops Q (.alt i p q) a w:=⟨h,h'⟩
end
end Go.Proofs.YtahahafhendgoaaGreatDoor
namespace Go.Proofs.YtahahafhendgoaaGreatDoor
open Go.RowKit
open Go.Maps Go.MapKept
set_option maxRecDepth 100000
theorem mlawE : Keyed Tryz.prog 9:=string_keyed Tryz.underlying9
theorem zeroEnt (w : World) : (zeroValue 48).run Tryz.prog w = .ok (.agg #[.string ⟨#[]⟩,.slice none 0 0]) w:=by kernel_rfl
def NewSays (w : World) (e : Ending) (w' : World) : Prop:=∃ g B,e = .returned (.pointer (some ⟨g,0,none⟩)) ∧ w'.heap[g]? = some (.cells #[.map (some B)] 75 (0,0)) ∧ w'.heap[B]? = some (.map #[] 0) ∧ w.heap.size ≤ B ∧ B < g ∧ Ext w w'
theorem new_any (w : World) : Calls Tryz.prog 22 #[] w (NewSays w):=by
 have hmm:=@run_makeMap Tryz.prog
 go_enter Tryz.func22,Tryz.ntmps22
 go_wp2
 go_ret
 refine ⟨_,w.heap.size,rfl,?_,?_,Nat.le_refl _,by simp,(Ext.alloc _ _).trans (Ext.alloc _ _)⟩
 ·have:=heap_alloc_new (w.alloc (.map #[] 0)) (.cells #[.map (some w.heap.size)] 75)
  rwa [show (w.alloc (.map #[] 0)).heap.size = w.heap.size + 1 by simp] at this
 ·exact ((Ext.alloc (w.alloc (.map #[] 0)) _).block _ (by simp)).trans (heap_alloc_new w _)
theorem mapput_wp {w w' : World} {o : Oper} {a : Act} {K : Act → World → Prop} {Q : Exit → Act → World → Prop} (T : TypeId) (m x v : Operand) (ho : o.op = .mapUpdate T m x v) {M X V : Value} (hm : a.eval m = M) (hx : a.eval x = X) (hv : a.eval v = V)
 (hrun : (Instr.mapUpdate T M X V).run Tryz.prog w = .ok () w') (h : K (a.put o.dst undef) w') : o.wp Tryz.prog a w K Q:=by
 unfold Oper.wp
 simp [execOp,ho,hm,hx,hv,hrun,Result.andThen]
 exact h
end Go.Proofs.YtahahafhendgoaaGreatDoor
namespace Go.Proofs.YtahahafhendgoaaGreatDoor.Drw
open Go
set_option maxRecDepth 100000
theorem ask_up {α : Type} (k : Ask α) : ∀ w : World,w.drawn ≤ (w.ask k).2.drawn:=by
 induction k with
 | done a=>intro w;exact Nat.le_refl _
 | ask what range k ih=>
  intro w
  unfold World.ask
  simp only []
  split
  ·exact ih _ _
  ·exact Nat.le_trans (Nat.le_succ _) (ih _ { w with drawn:=w.drawn + 1 })
theorem sys_up (w : World) (c : Sys) : w.drawn ≤ (w.sys c).2.drawn:=by
 unfold World.sys
 have h:=ask_up (Kernel.perform c w.os) w
 split
 ·exact Nat.le_refl _
 ·rename_i h2
  rw [h2] at h
  exact h
theorem viewStore_up (p : Program) (w : World) (at_ : Addr) (u : TypeId) (k : Addr) (v : Value) (m : Bool) {w' : World} {l : List Addr} (h : w.viewStore p at_ u k v m = .ok (w',l)) : w.drawn ≤ w'.drawn:=by
 unfold World.viewStore at h
 simp only [bind,Except.bind,pure,Except.pure,throw,throwThe,MonadExceptOf.throw] at h
 repeat' first
  | (cases h;done)
  | (simp only [Except.ok.injEq,Prod.mk.injEq] at h;obtain ⟨rfl,_⟩:=h;exact Nat.le_refl _)
  | split at h
theorem farStore_up (p : Program) (w : World) (a : Addr) (v : Value) (m : Bool) {w' : World} {l : List Addr} (h : w.farStore p a v m = .ok (w',l)) : w.drawn ≤ w'.drawn:=by
 unfold World.farStore at h
 split at h
 ·split at h
  ·rename_i h2
   cases h
   exact viewStore_up p w _ _ _ _ _ h2
  ·cases h
 ·cases h
def resUp {α : Type} (n : Nat) : Result α → Prop
 | .ok _ w=>n ≤ w.drawn
 | .halt _ w=>n ≤ w.drawn
theorem resUp.le {α : Type} {n m : Nat} {r : Result α} (h : resUp m r) (hn : n ≤ m) : resUp n r:=by
 cases r <;> exact Nat.le_trans hn h
theorem run_up {α : Type} (p : Program) (s : Sem α) : ∀ w : World,resUp w.drawn (s.run p w):=by
 induction s with
 | pure a=>intro w;exact Nat.le_refl _
 | load m a k ih=>
  intro w
  unfold Sem.run
  repeat' first
   | exact ih _ _
   | exact Nat.le_refl _
   | split
 | store m a v k ih=>
  intro w
  have hs : (w.setCell a v).drawn = w.drawn:=rfl
  cases v <;> simp only [Sem.run]
  repeat' first
   | exact (ih _).le (Nat.le_of_eq hs.symm)
   | exact Nat.le_refl _
   | (rename_i h2;exact (ih _).le (farStore_up p w _ _ _ h2))
   | split
 | new o k ih=>intro w;exact ih _ _
 | shape r k ih=>intro w;exact ih _ _
 | freeze a n k ih=>
  intro w
  have hs : (w.freeze a n).drawn = w.drawn:=by unfold World.freeze;split <;> rfl
  exact (ih _).le (Nat.le_of_eq hs.symm)
 | frozen a k ih=>intro w;exact ih _ _
 | getObj r k ih=>
  intro w
  unfold Sem.run
  repeat' first
   | exact ih _ _
   | exact Nat.le_refl _
   | split
 | setObj r o k ih=>
  intro w
  unfold Sem.run
  repeat' first
   | exact ih _
   | exact Nat.le_refl _
   | split
 | choose q k ih=>
  intro w
  unfold Sem.run
  split
  ·exact ih _ _
  ·exact (ih _ _).le (Nat.le_succ _)
 | sys c k ih=>intro w;exact (ih _ _).le (sys_up w c)
 | program k ih=>intro w;exact ih _ _
 | mark m k ih=>intro w;exact ih _
 | halt h=>intro w;exact Nat.le_refl _
theorem ok_up {α : Type} {p : Program} {s : Sem α} {w w' : World} {a : α} (h : s.run p w = .ok a w') : w.drawn ≤ w'.drawn:=by
 have:=run_up p s w
 rw [h] at this
 exact this
theorem halt_up {α : Type} {p : Program} {s : Sem α} {w w' : World} {a : Halt} (h : s.run p w = .halt a w') : w.drawn ≤ w'.drawn:=by
 have:=run_up p s w
 rw [h] at this
 exact this
def gUp (n : Nat) : GStep → Prop
 | .go _ w _=>n ≤ w.drawn
 | .comm _ _ _ _ w _=>n ≤ w.drawn
 | .spawn _ _ w _=>n ≤ w.drawn
 | .count _ w _=>n ≤ w.drawn
 | .timer _ _ w _=>n ≤ w.drawn
 | .alone _ _ w _=>n ≤ w.drawn
 | .newcoro _ _ _ w _=>n ≤ w.drawn
 | .coroswitch _ _ _ w _=>n ≤ w.drawn
 | .collect _ w _=>n ≤ w.drawn
 | .watch _ w _=>n ≤ w.drawn
 | .ended _ _ _=>True
theorem gUp.after {n : Nat} {s : GStep} (es : Array Event) (h : gUp n s) : gUp n (GStep.after es s):=by
 cases s <;> exact h
theorem gUp.le {n m : Nat} {s : GStep} (h : gUp m s) (hn : n ≤ m) : gUp n s:=by
 cases s <;> first | exact trivial | exact Nat.le_trans hn h
theorem endWith_up (n : Nat) (w : World) (fd : Nat) (text : ByteArray) (o : Outcome) : gUp n (endWith w fd text o):=by
 unfold endWith
 simp only []
 repeat' first
  | exact trivial
  | split
theorem endPrinting_up (p : Program) (fr : Frame) (v : Value) (w : World) : gUp w.drawn (endPrinting p fr v w):=by
 unfold endPrinting endThrow dieOf
 simp only []
 repeat' first
  | exact trivial
  | exact Nat.le_refl _
  | split
theorem endThrow_up (fr : Frame) (m : String) (w : World) : gUp w.drawn (endThrow fr m w):=Nat.le_refl _
theorem endFatal_up (p : Program) (fr : Frame) (cs : List Frame) (dy : Option Dying) (m : String) (w : World) : gUp w.drawn (endFatal p fr cs dy m w):=by
 unfold endFatal dieOf
 simp only []
 repeat' first
  | exact trivial
  | exact ok_up (by assumption)
  | split
theorem writeOn_up (p : Program) (fr : Frame) (d : Dying) (f : Fatal) (w : World) : gUp w.drawn (writeOn p fr d f w):=by
 unfold writeOn
 simp only [Sem.runT_eq]
 split
 ·exact trivial
 ·split <;> rename_i h <;> simp only [Prod.mk.injEq] at h <;> (try obtain ⟨h,_⟩:=h)
  ·exact ok_up h
  ·exact halt_up h
  ·exact trivial
  ·exact trivial
theorem die_up (p : Program) (fr : Frame) (d : Dying) (w : World) : gUp w.drawn (die p fr d w):=by
 unfold die
 simp only [Sem.runT_eq]
 repeat' first
  | exact trivial
  | exact Nat.le_refl _
  | exact ok_up (by assumption)
  | exact writeOn_up _ _ _ _ _
  | exact endWith_up _ _ _ _ _
  | exact (endPrinting_up _ _ _ _).le (halt_up (by assumption))
  | refine gUp.after _ ?_
  | split
theorem early_up (p : Program) (fr : Frame) (cs : List Frame) (dy : Option Dying) (g : Nat) (w : World) : gUp w.drawn (early p fr cs dy g w):=by
 unfold early
 simp only []
 repeat' first
  | exact trivial
  | exact Nat.le_refl _
  | exact ok_up (by assumption)
  | (simp only [gUp];exact ok_up (by assumption))
  | split
theorem doReturn_up (p : Program) (main : Bool) (fr : Frame) (cs : List Frame) (dy : Option Dying) (v : Value) (w : World) : gUp w.drawn (doReturn p main fr cs dy v w):=by
 unfold doReturn
 simp only []
 repeat' first
  | exact trivial
  | exact Nat.le_refl _
  | split
theorem callDeferred_up (p : Program) (fr : Frame) (cs : List Frame) (dy : Option Dying) (d : Deferred) (w : World) : gUp w.drawn (callDeferred p fr cs dy d w):=by
 unfold callDeferred
 simp only [Sem.runT_eq]
 have h:=run_up p (invoke d.target d.args) w
 generalize (invoke d.target d.args).run p w = r at h
 repeat' first
  | exact trivial
  | exact h
  | exact (endFatal_up _ _ _ _ _ _).le h
  | exact (endThrow_up _ _ _).le h
  | refine gUp.after _ ?_
  | split
theorem unwind_up (p : Program) (main : Bool) (fr : Frame) (cs : List Frame) (dy : Option Dying) (w : World) : gUp w.drawn (unwind p main fr cs dy w):=by
 unfold unwind
 simp only [Sem.runT_eq]
 repeat' first
  | exact trivial
  | exact Nat.le_refl _
  | exact ok_up (by assumption)
  | exact callDeferred_up _ _ _ _ _ _
  | exact doReturn_up _ _ _ _ _ _ _
  | exact endPrinting_up _ _ _ _
  | exact (doReturn_up _ _ _ _ _ _ _).le (ok_up (by assumption))
  | refine gUp.after _ ?_
  | split
theorem apply_up (p : Program) (b : Bool) (fr : Frame) (cs : List Frame) (dy : Option Dying) (s : Sem Next) (w : World) : gUp w.drawn (stepG.apply p b fr cs dy s w):=by
 unfold stepG.apply
 cases b
 all_goals
  simp only [Sem.runT_eq,Bool.false_eq_true,if_false,if_true]
  refine gUp.after _ ?_
  repeat' first
   | exact trivial
   | exact ok_up (by assumption)
   | exact halt_up (by assumption)
   | exact (endThrow_up _ _ _).le (ok_up (by assumption))
   | exact (endThrow_up _ _ _).le (halt_up (by assumption))
   | exact (endFatal_up _ _ _ _ _ _).le (halt_up (by assumption))
   | exact (early_up _ _ _ _ _ _).le (halt_up (by assumption))
   | split
theorem oper_up (p : Program) (b : Bool) (fr : Frame) (cs : List Frame) (dy : Option Dying) (w : World) : gUp w.drawn (stepG.oper p b fr cs dy w):=by
 unfold stepG.oper
 repeat' first
  | exact trivial
  | exact apply_up _ _ _ _ _ _ _
  | split
theorem elim_up {α : Type} {n : Nat} (o : Option α) (a : GStep) (f : α → GStep) (ha : gUp n a) (hf : ∀ x,gUp n (f x)) : gUp n (o.elim a f):=by
 cases o
 ·exact ha
 ·exact hf _
theorem exec_up (p : Program) (main b : Bool) (fr : Frame) (cs : List Frame) (dy : Option Dying) (w : World) : gUp w.drawn (stepG.exec p main b fr cs dy w):=by
 unfold stepG.exec
 simp only [Sem.runT_eq]
 repeat' first
  | exact trivial
  | exact Nat.le_refl _
  | exact ok_up (by assumption)
  | exact halt_up (by assumption)
  | exact oper_up _ _ _ _ _ _
  | exact apply_up _ _ _ _ _ _ _
  | exact (apply_up _ _ _ _ _ _ _).le (ok_up (by assumption))
  | exact (doReturn_up _ _ _ _ _ _ _).le (ok_up (by assumption))
  | refine gUp.after _ ?_
  | refine elim_up _ _ _ ?_ (fun _=>?_)
  | split
theorem stepG_up (p : Program) (main : Bool) (g : Goroutine) (w : World) (b : Bool) : gUp w.drawn (stepG p main g w b):=by
 obtain ⟨fr,callers,status,dying,offers⟩:=g
 simp only [stepG]
 split
 ·exact die_up _ _ _ _
 ·exact exec_up _ _ _ _ _ _ _
 ·exact unwind_up _ _ _ _ _ _
theorem waitingAt_up {rest : Rest} {cases : Array CommCase} {w w' : World} (h : waitingAt rest cases w = some w') : w.drawn ≤ w'.drawn:=by
 unfold waitingAt at h
 repeat' first
  | (simp at h;done)
  | (simp only [Option.some.injEq] at h;subst h;exact Nat.le_refl _)
  | split at h
theorem communicate_up (p : Program) (rest : Rest) (gs : Array Goroutine) (i : Nat) (g : Goroutine) (cases : Array CommCase) (blocking : Bool)
 (shape : CommShape) (w : World) (m' : Machine) (h : (communicate p rest gs i g cases blocking shape w).1 = .next m') : w.drawn ≤ m'.world.drawn:=by
 unfold communicate at h
 simp only [] at h
 repeat' first
  | (simp at h;done)
  | (simp only [Stepped.next.injEq] at h;subst h;simp only [];exact Nat.le_refl _)
  | (simp only [Stepped.next.injEq] at h;subst h;simp only [];exact ok_up (by assumption))
  | (simp only [Stepped.next.injEq] at h;subst h;simp only [];exact waitingAt_up (by assumption))
  | (simp only [Stepped.next.injEq] at h;subst h;simp only [];rename_i h1 _ _ _ _ h2;exact Nat.le_trans (ok_up (by assumption)) (ok_up h2))
  | (simp only [Stepped.next.injEq] at h;subst h;simp only [];rename_i h2;exact Nat.le_trans (ok_up (by assumption)) (halt_up h2))
  | (simp only [Stepped.next.injEq] at h;subst h;simp only [];rename_i h2;exact Nat.le_trans (ok_up (by assumption)) (ok_up h2))
  | split at h
theorem look_up (p : Program) (gs : Array Goroutine) (rest : Rest) (w : World) (m' : Machine) (h : look p gs rest w = .next m') : w.drawn ≤ m'.world.drawn:=by
 unfold look at h
 simp only [] at h
 repeat' first
  | (simp at h;done)
  | (simp only [Stepped.next.injEq] at h;subst h;simp only [];exact ok_up (by assumption))
  | split at h
theorem opened_up {m m' : Machine} {var : Addr} (h : timerOp.opened m var = some m') : m.world.drawn ≤ m'.world.drawn:=by
 unfold timerOp.opened at h
 repeat' first
  | (simp at h;done)
  | (simp only [Option.some.injEq] at h;subst h;exact Nat.le_refl _)
  | split at h
theorem timerOp_up (m m' : Machine) (op : TimerOp) (v : Value) (h : timerOp m op = .ok (v,m')) : m.world.drawn ≤ m'.world.drawn:=by
 unfold timerOp timerOp.named retime drain Machine.withTimers at h
 simp only [] at h
 repeat' first
  | (cases h;done)
  | (simp only [Except.ok.injEq,Prod.mk.injEq] at h;obtain ⟨_,rfl⟩:=h;exact Nat.le_refl _)
  | (simp only [Except.ok.injEq,Prod.mk.injEq] at h;obtain ⟨_,rfl⟩:=h;(try simp only []);exact opened_up (by assumption))
  | split at h
theorem serve_up (p : Program) (m m' : Machine) (k : Nat) (h : serve p m k = .next m') : m.world.drawn ≤ m'.world.drawn:=by
 unfold serve at h
 simp only [] at h
 repeat' first
  | (simp at h;done)
  | (simp only [Stepped.next.injEq] at h;subst h;exact Nat.le_refl _)
  | split at h
theorem endThrow_eq {fr : Frame} {m : String} {w w' : World} {g : Goroutine} {es : Array Event} (h : endThrow fr m w = .go g w' es) : w.drawn ≤ w'.drawn:=by
 have:=endThrow_up fr m w
 rw [h] at this
 exact this
theorem runT_up (p : Program) (m m' : Machine) (i : Nat) (b : Bool) (h : (runT p m i b).1 = .next m') : m.world.drawn ≤ m'.world.drawn:=by
 simp only [runT] at h
 generalize m.gs.swapAt! _ _ = gg at h
 have hs:=stepG_up p (i == 0) gg.1 m.world b
 generalize stepG p _ gg.1 m.world b = s at hs h
 cases s <;> simp only [] at h
 all_goals first
  | (simp at h;done)
  | exact Nat.le_trans hs (communicate_up _ _ _ _ _ _ _ _ _ _ h)
  | exact Nat.le_trans hs (look_up _ _ _ _ _ h)
  | (simp only [Stepped.next.injEq] at h;subst h;exact hs)
  | (repeat' first
      | (simp at h;done)
      | (simp only [Stepped.next.injEq] at h;subst h;exact hs)
      | (simp only [Stepped.next.injEq] at h;subst h;simp only [];refine Nat.le_trans hs ?_;have h9:=timerOp_up _ _ _ _ (by assumption);exact h9)
      | (simp only [Stepped.next.injEq] at h;subst h;simp only [];refine Nat.le_trans hs ?_;exact endThrow_eq (by assumption))
      | split at h)
theorem askOn_g (p : Program) (m m' : Machine) (i : Nat) (h : askOn p m = .goroutine m' i) : m.world.drawn ≤ m'.world.drawn:=by
 unfold askOn at h
 simp only [Machine.advanceTo] at h
 repeat' first
  | (simp at h;done)
  | (simp only [Move.goroutine.injEq] at h;obtain ⟨rfl,_⟩:=h)
  | split at h
 all_goals
  (try simp only [])
  repeat' first
   | exact Nat.le_refl _
   | refine Nat.le_trans ?_ (ok_up (by assumption))
   | (simp only [];refine Nat.le_trans ?_ (ok_up (by assumption)))
theorem askOn_m (p : Program) (m m' : Machine) (ops : Array MemOp) (h : askOn p m = .machine (.next m') ops) : m.world.drawn ≤ m'.world.drawn:=by
 unfold askOn at h
 simp only [Machine.advanceTo] at h
 repeat' first
  | (simp at h;done)
  | (simp only [Move.machine.injEq] at h;have:=serve_up _ _ _ _ h.1;exact Nat.le_trans (ok_up (by assumption)) this)
  | (simp only [Move.machine.injEq,Stepped.next.injEq] at h;obtain ⟨rfl,_⟩:=h;simp only [])
  | split at h
 all_goals
  repeat' first
   | exact Nat.le_refl _
   | refine Nat.le_trans ?_ (ok_up (by assumption))
theorem ask_up' (p : Program) (m : Machine) : (∃ m₂ : Machine,m.world.drawn ≤ m₂.world.drawn ∧ ask p m = askOn p m₂) ∨ (∃ o w,ask p m = .machine (.ended o w) #[]):=by
 unfold ask
 split
 ·have h:=run_up p (choose (.extern "collector.look" 2)) m.world
  generalize (choose (.extern "collector.look" 2)).run p m.world = r at h
  cases r with
  | halt h w=>exact .inr ⟨_,_,rfl⟩
  | ok k world=>
   rcases k with _ | _ | k
   ·exact .inl ⟨{ m with world },h,rfl⟩
   ·simp only []
    cases hl : look p m.gs m.rest world with
    | next m₂=>exact .inl ⟨m₂,Nat.le_trans h (look_up _ _ _ _ _ hl),rfl⟩
    | ended o w=>exact .inr ⟨o,w,rfl⟩
   ·exact .inl ⟨{ m with world },h,rfl⟩
 ·exact .inl ⟨m,Nat.le_refl _,rfl⟩
theorem ask_g (p : Program) (m m' : Machine) (i : Nat) (h : ask p m = .goroutine m' i) : m.world.drawn ≤ m'.world.drawn:=by
 rcases ask_up' p m with ⟨m2,h3,h4⟩ | ⟨o,w,h4⟩
 ·rw [h4] at h
  exact Nat.le_trans h3 (askOn_g _ _ _ _ h)
 ·rw [h4] at h
  cases h
theorem ask_m (p : Program) (m m' : Machine) (ops : Array MemOp) (h : ask p m = .machine (.next m') ops) : m.world.drawn ≤ m'.world.drawn:=by
 rcases ask_up' p m with ⟨m2,h3,h4⟩ | ⟨o,w,h4⟩
 ·rw [h4] at h
  exact Nat.le_trans h3 (askOn_m _ _ _ _ h)
 ·rw [h4] at h
  cases h
theorem move_g (p : Program) (m m' : Machine) (i : Nat) (h : move p m = .goroutine m' i) : m.world.drawn ≤ m'.world.drawn:=by
 unfold move at h
 repeat' first
  | (simp at h;done)
  | (have:=ask_g p _ m' i h;exact this)
  | (simp only [Move.goroutine.injEq] at h;obtain ⟨rfl,_⟩:=h;exact Nat.le_refl _)
  | split at h
theorem move_m (p : Program) (m m' : Machine) (ops : Array MemOp) (h : move p m = .machine (.next m') ops) : m.world.drawn ≤ m'.world.drawn:=by
 unfold move at h
 repeat' first
  | (simp at h;done)
  | (have:=ask_m p _ m' ops h;exact this)
  | split at h
theorem step_up (p : Program) (m m' : Machine) (h : step p m = .next m') : m.world.drawn ≤ m'.world.drawn:=by
 unfold step stepT at h
 cases hm : move p m with
 | goroutine m1 i=>
  rw [hm] at h
  exact Nat.le_trans (move_g p m m1 i hm) (runT_up p m1 m' i true h)
 | machine s ops=>
  rw [hm] at h
  simp only [] at h
  subst h
  exact move_m p m m' ops hm
theorem runN_up (p : Program) : ∀ (n : Nat) (m m' : Machine),runN p n m = .next m' → m.world.drawn ≤ m'.world.drawn
 | 0,m,m',h=>by cases h;exact Nat.le_refl _
 | n + 1,m,m',h=>by
  unfold runN at h
  split at h
  ·rename_i m1 h1
   exact Nat.le_trans (step_up p m m1 h1) (runN_up p n m1 m' h)
  ·rename_i e h1
   exact absurd h (h1 m')
theorem calls_up {P : Program} {f : FuncId} {args : Array Value} {w : World} {R : Ending → World → Prop} (h : Calls P f args w R) :
 Calls P f args w fun e w'=>R e w' ∧ (∀ v,e = .returned v → w.drawn ≤ w'.drawn):=by
 intro cs
 obtain ⟨e,w',fr,hr,hc,rest⟩:=h cs
 refine ⟨e,w',fr,⟨hr,?_⟩,hc,rest⟩
 intro v hv
 subst hv
 obtain ⟨n,hn⟩:=hc
 exact runN_up P n _ _ hn
end Go.Proofs.YtahahafhendgoaaGreatDoor.Drw
namespace Go.Proofs.YtahahafhendgoaaGreatDoor.Sxx
open Go Go.Sort Go.RowKit Go.Shelf
section
variable {α : Type} [Inhabited α] {enc : α → Value} {w : World} {g m : Nat} {dk : Array α} {os : Array Obj}
theorem sw_other {k : Nat} (hk : k < w.heap.size) (hne : k ≠ g) : (sortWorld enc w g 0 m dk os).heap[k]? = w.heap[k]?:=by
 unfold sortWorld
 rw [heap_grow_old _ _ (by rw [size_putRow];exact hk)]
 unfold putRow mapBlock Sort.ahead
 simp only [Array.getElem?_modify,if_neg (fun e=>hne (Eq.symm e))]
theorem sw_row {cur : Array Value} {e : TypeId} {fr : Nat × Nat} (h : w.heap[g]? = some (.cells cur e fr)) : (sortWorld enc w g 0 m dk os).heap[g]? = some (.cells (putCells enc 0 dk cur) e fr):=by
 have hk:=(Array.getElem?_eq_some_iff.1 h).1
 unfold sortWorld
 rw [heap_grow_old _ _ (by rw [size_putRow];exact hk)]
 unfold putRow mapBlock Sort.ahead
 simp only [Array.getElem?_modify,if_true,h,Option.map_some,onCells]
theorem sw_grown : w.grownBy (sortWorld enc w g 0 m dk os) (some g):=by
 refine ⟨rfl,rfl,rfl,?_,fun k hk hne=>sw_other hk (fun e=>hne (by rw [e]))⟩
 unfold sortWorld
 rw [size_grow,size_putRow]
 exact Nat.le_add_right _ _
theorem take_put (cur : Array Value) (h : dk.size ≤ cur.size) : (putCells enc 0 dk cur).toList.take dk.size = dk.toList.map enc:=by
 apply List.ext_getElem?
 intro i
 rw [List.getElem?_map,List.getElem?_take,Array.getElem?_toList,Array.getElem?_toList]
 by_cases hi : i < dk.size
 ·rw [if_pos hi]
  unfold putCells
  rw [Array.getElem?_mapIdx,Array.getElem?_eq_getElem (Nat.lt_of_lt_of_le hi h),Array.getElem?_eq_getElem hi]
  simp [hi]
 ·rw [if_neg hi,Array.getElem?_eq_none (by omega)]
  rfl
theorem sw_own {base n cap : Nat} {e : TypeId} {xs : List Value} (h : w.ownsRow base e 1 (.slice (some ⟨g,0,none⟩) n cap) n xs) (hn : dk.size = n) :
 (sortWorld enc w g 0 m dk os).ownsRow base e 1 (.slice (some ⟨g,0,none⟩) n cap) n (dk.toList.map enc):=by
 refine ⟨by simp [hn],?_⟩
 rcases h.2 with ⟨h',_⟩ | ⟨g',cap',cur,h',hb,hg,hnc,hcm,hcs,htake⟩
 ·cases h'
 ·simp only [Value.slice.injEq,Option.some.injEq,Addr.mk.injEq,and_true,true_and] at h'
  obtain ⟨rfl,rfl⟩:=h'
  refine .inr ⟨g,cap,_,rfl,hb,sw_row hg,hnc,hcm,by unfold putCells;rw [Array.size_mapIdx];exact hcs,?_⟩
  rw [Nat.mul_one,← hn]
  exact take_put cur (by rw [hcs,hn];omega)
theorem own_holds {base n cap : Nat} {e : TypeId} (h : w.ownsRow base e 1 (.slice (some ⟨g,0,none⟩) n cap) n (dk.toList.map enc)) : Holds enc w g 0 dk ∧ base ≤ g ∧ g < w.heap.size ∧ dk.size = n ∧ n ≤ maxLen:=by
 have hl:=h.1
 rw [List.length_map,Nat.mul_one,Array.length_toList] at hl
 rcases h.2 with ⟨h',_⟩ | ⟨g',cap',cur,h',hb,hg,hnc,hcm,hcs,htake⟩
 ·cases h'
 ·simp only [Value.slice.injEq,Option.some.injEq,Addr.mk.injEq,and_true,true_and] at h'
  obtain ⟨rfl,rfl⟩:=h'
  refine ⟨fun j hj=>?_,hb,(Array.getElem?_eq_some_iff.1 hg).1,hl,Nat.le_trans hnc hcm⟩
  have e1 : cur[j]? = some (enc dk[j]!):=by
   have:=congrArg (·[j]?) htake
   simp only [List.getElem?_take,List.getElem?_map,Array.getElem?_toList] at this
   rw [if_pos (by omega),Array.getElem?_eq_getElem hj] at this
   rw [this,getElem!_pos dk j hj]
   rfl
  refine ⟨?_,?_⟩
  ·simp [World.cell?,hg,e1]
  ·simp [World.frozen?,hg]
theorem permIn_perm {d d' : Array α} (h : PermIn 0 d.size d d') : d'.toList.Perm d.toList:=by
 obtain ⟨h1,_,h3⟩:=h
 have e : d'.extract 0 d.size = d':=by rw [← h1];simp
 rw [e] at h3
 simpa using h3
theorem sortedIn_pairwise {lt : α → α → Bool} {d' : Array α} {n : Nat} (hn : n = d'.size) (h : SortedIn lt 0 n d') : d'.toList.Pairwise fun x y=>lt y x = false:=by
 rw [List.pairwise_iff_getElem]
 intro i j hi hj hij
 have:=h i j (Nat.zero_le _) hij (by rw [hn];simpa using hj)
 rw [getElem!_pos d' i (by simpa using hi),getElem!_pos d' j (by simpa using hj)] at this
 simpa using this
end
theorem grown_of_ext {w w' : World} (h : Go.RowKit.Below w.heap.size w w') (hd : w.drawn ≤ w'.drawn) : ∃ q os,w' = grow (w.drewN q) os:=by
 obtain ⟨p,hp⟩:=regrown_of_below h
 refine ⟨w'.drawn - w.drawn,p.os,?_⟩
 have hdr : w'.drawn = p.d:=by rw [hp];rfl
 have e : redrawn w p.d = w.drewN (w'.drawn - w.drawn):=by
  unfold redrawn World.drewN
  rw [show w.drawn + (w'.drawn - w.drawn) = p.d by omega]
 rw [← e]
 exact hp
end Go.Proofs.YtahahafhendgoaaGreatDoor.Sxx
namespace Go.Proofs.YtahahafhendgoaaGreatDoor
open Go.RowKit
open Go.Maps
set_option maxRecDepth 100000
def MSet (w : World) (B n : Nat) (l : List ByteArray) : Prop:=
 ∃ D : DataW Unit,w.ownsMap Tryz.prog 9 (plainElem Tryz.prog 4) B n D ∧ IsMap D ∧ ∀ s : ByteArray,s.size ≤ maxLen → D.atKey (.string s.data.toList) (.lit (.bool false)) = .lit (.bool (l.any (fun t=>decide (t = s))))
theorem mlaw : Keyed Tryz.prog 9:=string_keyed Tryz.underlying9
theorem plainElem_bool_inv {P : Program} {e : TypeId} (he : P.underlying e = some .bool) {v : Value} {z : DataW Unit × List MemPlace} (h : plainElem P e v = some z) : ∃ a,v = .bool a ∧ z = (.lit (.bool a),[]):=by
 unfold plainElem at h
 rw [he] at h
 cases v <;> simp at h
 exact ⟨_,rfl,h.symm⟩
theorem MSet.made (w : World) : MSet (w.alloc (.map #[] 0)) w.heap.size 0 []:=
 ⟨.map [],World.ownsMap_made _ _ _ _,⟨[],rfl⟩,fun s _=>by simp [DataW.atKey]⟩
theorem MSet.kept {w w' : World} {B n : Nat} {l : List ByteArray} {row : Option Nat} (h : MSet w B n l) (hg : w.grownBy w' row) (hne : some B ≠ row) : MSet w' B n l:=by
 obtain ⟨D,h1,h2,h3⟩:=h
 exact ⟨D,h1.kept hg hne,h2,h3⟩
section
variable {w : World} {ops : Array Oper} {rest : List Oper} {o : Oper} {a : Act} {Q : Exit → Act → World → Prop} {B n : Nat} {l : List ByteArray}
theorem mset_look (hg : o.guard = none) (m x : Operand) (hop : o.op = Op.lookup 79 m x false) (h : MSet w B n l) (hm : a.eval m = .map (some B)) (s : ByteArray) (hs : s.size ≤ maxLen) (hx : a.eval x = .string s)
 (hK : wpList Tryz.prog ops Q rest (a.put o.dst (.bool (l.any (fun t=>decide (t = s))))) w) : wpList Tryz.prog ops Q (o :: rest) a w:=by
 obtain ⟨D,h1,h2,h3⟩:=h
 have hz : (zeroValue 4).run Tryz.prog w = .ok (.bool false) w:=by kernel_rfl
 obtain ⟨v,ps,hrun,hv⟩:=h1.lookup mlaw Tryz.underlying79 hz (plainElem_bool Tryz.underlying4 false) (key:=.string s) (kl:=.string s.data.toList) (WideMaps.keyOf_string_mk Tryz.underlying9 hs)
 rw [h3 s hs] at hv
 obtain ⟨b,rfl,hb⟩:=plainElem_bool_inv Tryz.underlying4 hv
 simp at hb
 obtain ⟨hb,-⟩:=hb
 subst hb
 refine wpList_plain hg fun K' hK'=>?_
 unfold Oper.wp
 simp [execOp,hop,hm,hx,hrun,Result.andThen]
 exact hK' _ _ (by simpa using hK)
theorem mset_put (hg : o.guard = none) (m x v : Operand) (hop : o.op = Op.mapUpdate 79 m x v) (h : MSet w B n l) (hn : n < maxLen) (hm : a.eval m = .map (some B)) (s : ByteArray) (hs : s.size ≤ maxLen) (hx : a.eval x = .string s) (hv : a.eval v = .bool true)
 (hK : ∀ w',MSet w' B (n + 1) (l ++ [s]) → w.grownBy w' (some B) → wpList Tryz.prog ops Q rest (a.put o.dst undef) w') : wpList Tryz.prog ops Q (o :: rest) a w:=by
 obtain ⟨D,h1,h2,h3⟩:=h
 refine wpList_mapUpdate_own _ hg m x v 79 hop 9 4 mlaw Tryz.underlying79 _ B n D hm h1 hn (.string s) (.bool true) (.string s.data.toList) hx hv (WideMaps.keyOf_string_mk Tryz.underlying9 hs) _ [] (plainElem_bool Tryz.underlying4 true) ?_
 intro w' ho hgr
 refine hK w' ⟨_,ho,ho.isMap,fun u hu=>?_⟩ hgr
 by_cases he : u = s
 ·subst he
  rw [atKey_put_same h2 (by trivial)]
  simp [List.any_append]
 ·rw [atKey_put_other (fun e=>he (by injection e with e;exact ByteArray.ext (Array.ext' (by simpa using e)))),h3 u hu]
  have e2 : decide (s = u) = false:=decide_eq_false (fun e=>he e.symm)
  simp [List.any_append,e2]
end
end Go.Proofs.YtahahafhendgoaaGreatDoor
