/- Lemmas of the walk that the last text of this claim joins. -/
import Derived.Test.YtahahafhendgoaaGreatDoorZ10
import Derived.Test.YtahahafhendgoaaGreatDoorShl
import Derived.Lib.OthersKept
import Derived.Lib.AppendStr
import Derived.Test.YtahahafhendgoaaGreatDoorZ14
import Derived.Test.YtahahafhendgoaaGreatDoorZ08
import Derived.Lib.SplitLaws
import Derived.Lib.AppendIntMem
set_option maxHeartbeats 40000000
set_option linter.unusedVariables false
set_option linter.unusedSimpArgs false
namespace Go.Proofs.YtahahafhendgoaaGreatDoor
open Go.RowKit
set_option maxRecDepth 100000
def IsB (B b : Nat) (xs : List UInt8) (w : World) : Prop:=Lib.IsBuilder 128 5 B b (xs.map bv) w
theorem IsB.lt {B b : Nat} {xs : List UInt8} {w : World} (h : IsB B b xs w) : b < w.heap.size:=by
 rcases h with h | h
 ·exact h.lt
 ·exact h.lt
theorem IsB.base {B b : Nat} {xs : List UInt8} {w : World} (h : IsB B b xs w) : B ≤ b:=by
 rcases h with ⟨h,_⟩ | ⟨h,_⟩
 ·exact h
 ·exact h
theorem IsB.le {B b : Nat} {xs : List UInt8} {w : World} (h : IsB B b xs w) : B ≤ w.heap.size:=by have:=h.lt;have:=h.base;omega
theorem at_ext {B b : Nat} {xs : List Value} {p : Value} {w w' : World} (h : Lib.BuilderAt 128 5 B b p xs w) (hx : Ext w w') : Lib.BuilderAt 128 5 B b p xs w':=by
 have hlt:=h.lt
 obtain ⟨h1,v,h2,h3,h4⟩:=h
 exact ⟨h1,v,(hx.block b hlt).trans h2,own_ext h3 hx,h4⟩
theorem IsB.ext {B b : Nat} {xs : List UInt8} {w w' : World} (h : IsB B b xs w) (hx : Ext w w') : IsB B b xs w':=h.elim (fun h=>.inl (at_ext h hx)) (fun h=>.inr (at_ext h hx))
theorem isB_new (w : World) : IsB w.heap.size w.heap.size [] (w.alloc (.cells #[.pointer none,.slice none 0 0] 128)):=Lib.fresh_isBuilder _ _ w
theorem copyCheck_any {B b : Nat} {xs : List UInt8} {w : World} (h : IsB B b xs w) :
 Calls Tryz.prog 95 #[.pointer (some ⟨b,0,none⟩)] w fun e w'=>e = .returned (.tuple #[]) ∧ (Lib.BuilderAt 128 5 B b (.pointer (some ⟨b,0,none⟩)) (xs.map bv) w' ∧ Below B w w' ∧ w.grownBy w' (some b)):=by
 rcases h with h | h
 ·refine (Any.Builder_copyCheck_fresh (ρ:=Tryz.lays156_ren) { Tryz.lays156 with } Tryz.Builder_Extra_156.toX72 b w h.cell0 h.shape h.frozen0).mono ?_
  rintro e w' ⟨rfl,rfl⟩
  exact ⟨rfl,h.used _,(Below.refl B w).setCell (p:=⟨b,0,none⟩) h.1 _,rfl,rfl,rfl,by simp,fun k _ hk=>heap_setCell_other w ⟨b,0,none⟩ k _ (fun e=>hk (by simp [e]))⟩
 ·refine (Any.Builder_copyCheck_used (ρ:=Tryz.lays156_ren) { Tryz.lays156 with } Tryz.Builder_Extra_156.toX72 b w h.cell0).mono ?_
  rintro e w' ⟨rfl,rfl⟩
  exact ⟨rfl,h,Below.refl B _,World.grownBy.refl _ _⟩
theorem Sl.aside {w w' : World} {A : Option Addr} {n c b : Nat} {xs : List UInt8} (h : Sl w A n c xs) (hg : w.grownBy w' (some b)) (hA : ∀ a,A = some a → a.block ≠ b) : Sl w' A n c xs:=by
 obtain ⟨h1,h2,h3,h4⟩:=h
 refine ⟨h1,h2,h3,?_⟩
 rcases h4 with h4 | ⟨g,off,hg',hc⟩
 ·exact .inl h4
 ·refine .inr ⟨g,off,hg',fun j u hj=>?_⟩
  have hu:=hc j u hj
  have hlt:=World.block_lt_of_cell? w _ hu
  rw [World.cell?_of_block (hg.block g hlt (fun e=>hA _ hg' (by injection e)))]
  exact hu
theorem string_any {B b : Nat} {xs : List UInt8} {w : World} (h : IsB B b xs w) :
 Calls Tryz.prog 69 #[.pointer (some ⟨b,0,none⟩)] w fun e w'=>e = .returned (.string (str xs)) ∧ Below B w w':=
 Tryz.Builder_String_any B b xs w h h.le
structure Kept (B b : Nat) (w w' : World) : Prop where
 below : Below B w w'
 others : Lib.OthersKept 5 (some b) w w'
theorem kept_ext {B b : Nat} {w w' : World} (h : Ext w w') (hB : B ≤ w.heap.size) : Kept B b w w':=
 ⟨Below.mono h hB,fun k o hk _ _=>by rw [h.block k (Array.getElem?_eq_some_iff.1 hk).1];exact hk⟩
theorem Kept.refl (B b : Nat) (w : World) : Kept B b w w:=⟨Below.refl _ _,Lib.OthersKept.refl _ _ _⟩
theorem Kept.trans {B b : Nat} {a c d : World} (h : Kept B b a c) (k : Kept B b c d) : Kept B b a d:=⟨Below.trans h.below k.below,h.others.trans k.others⟩
theorem Kept.cell {B b : Nat} {w w' : World} (h : Kept B b w w') {g j : Nat} {v : Value} {cs : Array Value} {T : TypeId} {fz : Nat × Nat} (hg : w.heap[g]? = some (.cells cs T fz)) (hT : T ≠ 5) (hb : g ≠ b) (hj : cs[j]? = some v) : w'.cell? ⟨g,j,none⟩ = some v:=by
 have:=h.others g _ hg (fun e=>hb (by injection e)) (fun c f e=>hT (by injection e))
 rw [cell_of_row w' g j cs T fz this]
 exact hj
theorem kept_grownBy {B b : Nat} {w w' : World} (h : Below B w w') (hg : w.grownBy w' (some b)) : Kept B b w w':=
 ⟨h,fun k o hk hb _=>by rw [hg.block k (Array.getElem?_eq_some_iff.1 hk).1 hb];exact hk⟩
theorem own_cells {w : World} {B : Nat} {e : TypeId} {size n : Nat} {v : Value} {vs : List Value} (h : w.ownsRow B e size v n vs) : ∀ g,v.ownBlock = some g → ∃ c fz,w.heap[g]? = some (.cells c e fz):=by
 intro g hg
 rcases h.2 with ⟨rfl,_⟩ | ⟨g',cap,cur,rfl,_,hh,_⟩
 ·cases hg
 ·injection hg with hg
  subst hg
  exact ⟨_,_,hh⟩
theorem built {B b : Nat} {xs ys : List UInt8} {v v' : Value} {w1 w2 : World} {n : Nat} (hB : B ≤ b) (hbk : w1.heap[b]? = some (.cells #[.pointer (some ⟨b,0,none⟩),v] 128 (0,0)))
 (hne : v.ownBlock ≠ some b) (hown : ∀ g,v.ownBlock = some g → ∃ c fz,w1.heap[g]? = some (.cells c 5 fz))
 (hown' : w2.ownsRow B 5 1 v' n ((xs ++ ys).map bv)) (hn : n = (xs ++ ys).length) (hb : Below B w1 w2) (hg : w1.grownBy w2 v.ownBlock) :
 w2.heap[b]? = some (.cells #[.pointer (some ⟨b,0,none⟩),v] 128 (0,0)) ∧ IsB B b (xs ++ ys) (w2.setCell ⟨b,1,none⟩ v') ∧ Kept B b w1 (w2.setCell ⟨b,1,none⟩ v'):=by
 have hlt : b < w1.heap.size:=(Array.getElem?_eq_some_iff.1 hbk).1
 have hb2 : w2.heap[b]? = some (.cells #[.pointer (some ⟨b,0,none⟩),v] 128 (0,0)):=by
  rw [hg.block b hlt (fun e=>hne e.symm)];exact hbk
 refine ⟨hb2,.inr (Lib.BuilderAt.put hB hb2 (by rw [List.length_map,← hn];exact hown') (by decide)),?_,?_⟩
 ·refine Below.trans hb ⟨rfl,rfl,rfl,by simp,fun k hk=>?_⟩
  rw [heap_setCell_other _ _ _ _ (by simp;omega)]
 ·exact ((Lib.OthersKept.refl _ (some b) w1).grown hg hown).setCell ⟨b,1,none⟩ rfl v'
theorem writeByte_kept {B b : Nat} {xs : List UInt8} {w : World} (x : UInt8) (h : IsB B b xs w) (hl : xs.length + 1 ≤ 140737488355328) :
 Calls Tryz.prog 93 #[.pointer (some ⟨b,0,none⟩),.int .u8 (x.toNat : Int)] w fun e w'=>e = .returned .nilIface ∧ IsB B b (xs ++ [x]) w' ∧ Kept B b w w':=by
 have HI:=hid h
 have HB0:=hid h.le
 clear h
 go_enter Tryz.func93,Tryz.ntmps93
 go_wp2_with (go_at_call 95;(with_reducible refine (copyCheck_any HI.out).mono ?_))
 rintro e w1 ⟨rfl,⟨hB,v,hbk,hown,hne⟩,hb1,hgw⟩
 rw [List.length_map] at hown
 have c1 : w1.cell? ⟨b,1,none⟩ = some v:=by rw [Lib.cell_of_heap hbk];rfl
 have HO:=hid hown
 have HK:=hid hbk
 have HN:=hid hne
 have HX:=hid (kept_grownBy hb1 hgw)
 have HC:=hid (own_cells hown)
 have HB:=hid hB
 obtain ⟨A1,k1,rfl⟩:=own_form hown
 clear hown hbk hne hb1 hB hgw
 go_wp2_with (at_builtin;refine append_bytes rfl _ _ rfl B _ xs.length xs rfl (own_ext HO.out (Ext.alloc _ _)) _ 1 1 [x] rfl (sl_char _ x) (by omega) (by have:=HB0.out;have:=HX.out.below.size;simp;omega) ?_)
 intro v' w2 ho2 hb2 hg2 _
 rw [← List.map_singleton,← List.map_append] at ho2
 obtain ⟨hk2,hi3,hb3⟩:=built HB.out (row_later' HK.out (Ext.alloc _ _)) HN.out (own_cells (own_ext HO.out (Ext.alloc _ _))) ho2 (by simp) hb2 hg2
 have d1 : w2.cell? ⟨b,1,none⟩ = some (.slice A1 xs.length k1):=by rw [Lib.cell_of_heap hk2];rfl
 have f1 : w2.frozen? ⟨b,1,none⟩ = false:=Lib.frozen_of_heap hk2 1
 have HI3:=hid hi3
 have HB3:=hid hb3
 obtain ⟨A2,k2,rfl⟩:=own_form ho2
 clear ho2 hb2 hg2 hk2 hi3 hb3
 go_wp2
 go_ret
 exact ⟨rfl,HI3.out,HX.out.trans ((kept_ext (Ext.alloc _ _) (by have:=HB0.out;have:=HX.out.below.size;omega)).trans HB3.out)⟩
theorem writeByte_any {B b : Nat} {xs : List UInt8} {w : World} (x : UInt8) (h : IsB B b xs w) (hl : xs.length + 1 ≤ 140737488355328) :
 Calls Tryz.prog 93 #[.pointer (some ⟨b,0,none⟩),.int .u8 (x.toNat : Int)] w fun e w'=>e = .returned .nilIface ∧ IsB B b (xs ++ [x]) w' ∧ Below B w w':=
 (writeByte_kept x h hl).mono fun _ _ ⟨h1,h2,h3⟩=>⟨h1,h2,h3.below⟩
theorem write_kept {B b : Nat} {xs : List UInt8} {w : World} (A : Option Addr) (m c : Nat) (ys : List UInt8) (h : IsB B b xs w) (hy : Sl w A m c ys) (hA : ∀ a,A = some a → a.block ≠ b) (hl : xs.length + m ≤ 140737488355328) :
 Calls Tryz.prog 126 #[.pointer (some ⟨b,0,none⟩),.slice A m c] w fun e w'=>e = .returned (.tuple #[.int .i64 m,.nilIface]) ∧ IsB B b (xs ++ ys) w' ∧ Kept B b w w':=by
 have HI:=hid h
 have HB0:=hid h.le
 have HY:=hid hy
 have HA:=hid hA
 clear h hy hA
 go_enter Tryz.func126,Tryz.ntmps126
 go_wp2_with (go_at_call 95;(with_reducible refine (copyCheck_any HI.out).mono ?_))
 rintro e w1 ⟨rfl,⟨hB,v,hbk,hown,hne⟩,hb1,hgw⟩
 rw [List.length_map] at hown
 have c1 : w1.cell? ⟨b,1,none⟩ = some v:=by rw [Lib.cell_of_heap hbk];rfl
 have HO:=hid hown
 have HK:=hid hbk
 have HN:=hid hne
 have HX:=hid (kept_grownBy hb1 hgw)
 have HC:=hid (own_cells hown)
 have HB:=hid hB
 have HS:=hid (HY.out.aside hgw HA.out)
 obtain ⟨A1,k1,rfl⟩:=own_form hown
 clear hown hbk hne hb1 hB hgw
 go_wp2_with (at_builtin;refine append_bytes rfl _ _ rfl B _ xs.length xs rfl HO.out _ m c ys rfl HS.out (by omega) (by have:=HB0.out;have:=HX.out.below.size;omega) ?_)
 intro v' w2 ho2 hb2 hg2 _
 rw [← List.map_append] at ho2
 obtain ⟨hk2,hi3,hb3⟩:=built HB.out HK.out HN.out HC.out ho2 (by have:=HS.out.len;rw [List.length_append];omega) hb2 hg2
 have d1 : w2.cell? ⟨b,1,none⟩ = some (.slice A1 xs.length k1):=by rw [Lib.cell_of_heap hk2];rfl
 have f1 : w2.frozen? ⟨b,1,none⟩ = false:=Lib.frozen_of_heap hk2 1
 have HI3:=hid hi3
 have HB3:=hid hb3
 obtain ⟨A2,k2,rfl⟩:=own_form ho2
 clear ho2 hb2 hg2 hk2 hi3 hb3
 go_wp2
 go_ret2
 exact ⟨rfl,HI3.out,HX.out.trans HB3.out⟩
theorem strCells_bv (s : ByteArray) : Lib.strCells s = (bys s).map bv:=rfl
theorem writeString_kept {B b : Nat} {xs : List UInt8} {w : World} (s : ByteArray) (h : IsB B b xs w) (hl : xs.length + s.size ≤ 140737488355328) :
 Calls Tryz.prog 68 #[.pointer (some ⟨b,0,none⟩),.string s] w fun e w'=>e = .returned (.tuple #[.int .i64 s.size,.nilIface]) ∧ IsB B b (xs ++ bys s) w' ∧ Kept B b w w':=by
 have HI:=hid h
 have HB0:=hid h.le
 obtain ⟨i0,hi,hz0,hz1,hz2⟩:=info_parts Tryz.infoByte
 clear h
 go_enter Tryz.func68,Tryz.ntmps68
 go_wp2_with (go_at_call 95;(with_reducible refine (copyCheck_any HI.out).mono ?_))
 rintro e w1 ⟨rfl,⟨hB,v,hbk,hown,hne⟩,hb1,hgw⟩
 rw [List.length_map] at hown
 have c1 : w1.cell? ⟨b,1,none⟩ = some v:=by rw [Lib.cell_of_heap hbk];rfl
 have HO:=hid hown
 have HK:=hid hbk
 have HN:=hid hne
 have HX:=hid (kept_grownBy hb1 hgw)
 have HC:=hid (own_cells hown)
 have HB:=hid hB
 obtain ⟨A1,k1,rfl⟩:=own_form hown
 clear hown hbk hne hb1 hB hgw
 go_wp2_with (at_builtin;refine Lib.wpList_append_own_string _ rfl _ _ 126 9 rfl B 5 i0 Tryz.underlying126 Tryz.underlying9 hi hz0 hz1 hz2 _ xs.length (xs.map bv) rfl HO.out s rfl (by unfold maxLen;omega) hl (by have:=HB0.out;have:=HX.out.below.size;omega) ?_)
 intro v' w2 ho2 hg2 _
 rw [strCells_bv,← List.map_append] at ho2
 obtain ⟨hk2,hi3,hb3⟩:=built HB.out HK.out HN.out HC.out ho2 (by rw [List.length_append,bys_len]) ((Below.refl B w1).grown hg2 (by have:=HB0.out;have:=HX.out.below.size;omega) (fun k hk=>(HO.out.lt k hk).1)) hg2
 have d1 : w2.cell? ⟨b,1,none⟩ = some (.slice A1 xs.length k1):=by rw [Lib.cell_of_heap hk2];rfl
 have f1 : w2.frozen? ⟨b,1,none⟩ = false:=Lib.frozen_of_heap hk2 1
 have HI3:=hid hi3
 have HB3:=hid hb3
 obtain ⟨A2,k2,rfl⟩:=own_form ho2
 clear ho2 hg2 hk2 hi3 hb3
 go_wp2
 go_ret2
 exact ⟨rfl,HI3.out,HX.out.trans HB3.out⟩
theorem strs_data (l : List (List UInt8)) : (strs l).map (·.data.toList) = l:=by
 induction l with
 | nil=>rfl
 | cons x t ih=>exact congrArg (x :: ·) ih
theorem split_blank (s : ByteArray) (w : World) (hG : Gl w) (hs : s.size ≤ 4000000) :
 Calls Tryz.prog 153 #[.string s,.string ⟨#[32]⟩] w fun e w'=>∃ A n,e = .returned (.slice A n n) ∧ Row Elem.str (fun _=>True) w' A n n (strs (splitSp [] (bys s))) ∧ Ext w w':=by
 obtain ⟨m,hm⟩:=hG.maxlen
 refine (Tryz.strings_Split s ⟨#[32]⟩ m w (by omega) hm (by decide)).mono ?_
 rintro e w' ⟨rfl,rfl⟩
 have hlen:=Lib.splitB_all ⟨#[32]⟩ (by decide) 0 _ s rfl
 have hle:=Lib.countB_le ⟨#[32]⟩ (by decide) s.size s (Nat.le_refl _)
 have hd:=Lib.splitB_data ⟨#[32]⟩ 0 (Lib.countB s ⟨#[32]⟩) s
 have h1 : Lib.splitB ⟨#[32]⟩ 0 (Lib.countB s ⟨#[32]⟩) s = strs (splitSp [] (bys s)):=by
  rw [← split_sp _ (bys s) (Nat.le_refl _)]
  have e : Lib.splitK [32] 0 (Lib.count (bys s) [32]) (bys s) = (Lib.splitB ⟨#[32]⟩ 0 (Lib.countB s ⟨#[32]⟩) s).map (·.data.toList):=hd.symm
  rw [e]
  show _ = List.map str (List.map _ _)
  rw [List.map_map]
  conv=>lhs;rw [← List.map_id (Lib.splitB ⟨#[32]⟩ 0 (Lib.countB s ⟨#[32]⟩) s)]
  exact List.map_congr_left fun x _=>(str_bys x).symm
 have hl:=lit_str w (Lib.splitB ⟨#[32]⟩ 0 (Lib.countB s ⟨#[32]⟩) s) 9 (by rw [hlen];unfold maxLen;omega)
 rw [hlen] at hl
 rw [h1] at hl ⊢
 exact ⟨_,_,rfl,hl,Ext.alloc _ _⟩
theorem splitsays : SplitSays:=split_blank
theorem join_any (l : List ByteArray) (sep : ByteArray) {S : Nat → Prop} {A : Option Addr} {n c : Nat} {w : World} (h : Row Elem.str S w A n c l) (hn : l.length ≤ 4000001) (hl : (Lib.join (l.map (·.data.toList)) sep.data.toList).length ≤ 140737488355328) :
 Calls Tryz.prog 39 #[.slice A n c,.string sep] w fun e w'=>e = .returned (.string (str (Lib.join (l.map bys) (bys sep)))) ∧ Ext w w':=by
 have hlen:=h.len
 rcases Nat.eq_zero_or_pos n with h0 | h0
 ·have hnil : l = []:=h.nil_iff.1 h0
  subst hnil h0
  refine (Tryz.strings_Join_none A c sep w).mono ?_
  rintro e w' ⟨rfl,rfl⟩
  exact ⟨rfl,Ext.refl _⟩
 ·obtain ⟨b,o,rfl,hc⟩:=h.str_cell h0
  have hc0:=hc 0 h0
  subst hlen
  refine (Tryz.strings_Join b o c l sep w (fun j x hj=>?_) (World.block_lt_of_cell? w _ hc0) (by omega) h.cap hl).mono ?_
  ·have hj':=(List.getElem?_eq_some_iff.1 hj).1
   rw [hc j hj',hj]
   rfl
  ·rintro e w' ⟨rfl,hx⟩
   exact ⟨rfl,hx⟩
theorem words_row (s : ByteArray) (w : World) (hG : Gl w) (hs : s.size ≤ 4000000) :
 Calls Tryz.prog 134 #[.string s] w fun e w'=>∃ A n c,e = .returned (.slice A n c) ∧ Row Elem.str (fun b=>w.heap.size ≤ b) w' A n c (strs (wordsB (bys s))) ∧ Ext w w':=by
 refine (words_any splitsays s w hG hs).mono ?_
 rintro e w' ⟨v,rfl,hg⟩
 have hx:=hg.ext
 obtain ⟨A,c,rfl,hr⟩:=hg.row
 exact ⟨A,_,c,rfl,hr,hx⟩
theorem splitSp_sum : ∀ (l cur : List UInt8),((splitSp cur l).map List.length).sum ≤ cur.length + l.length
 | [],cur=>by simp [splitSp]
 | c :: t,cur=>by
  unfold splitSp
  split
  ·have:=splitSp_sum t [];simp only [List.map_cons,List.sum_cons,List.length_nil,List.length_cons] at this ⊢;omega
  ·have:=splitSp_sum t (cur ++ [c]);simp only [List.length_append,List.length_cons,List.length_nil] at this ⊢;omega
theorem joinSp_le : ∀ ws : List (List UInt8),(joinSp ws).length ≤ (ws.map List.length).sum + ws.length
 | []=>by simp [joinSp]
 | [x]=>by simp [joinSp]
 | x :: y :: t=>by
  have:=joinSp_le (y :: t)
  simp only [joinSp,List.length_append,List.length_cons,List.map_cons,List.sum_cons] at this ⊢
  omega
theorem filter_sum (p : List UInt8 → Bool) : ∀ l : List (List UInt8),((l.filter p).map List.length).sum ≤ (l.map List.length).sum
 | []=>by simp
 | x :: t=>by
  have:=filter_sum p t
  rw [List.filter_cons]
  split <;> simp only [List.map_cons,List.sum_cons] <;> omega
theorem words_le (v : List UInt8) : (joinSp (wordsB v)).length ≤ 2 * v.length + 1:=by
 have h1:=joinSp_le (wordsB v)
 have h2:=filter_sum (fun x=>decide (x ≠ [])) (splitSp [] v)
 have h3:=splitSp_sum v []
 have h4:=splitSp_length v []
 have h5 : (wordsB v).length ≤ (splitSp [] v).length:=List.length_filter_le _ _
 have h6 : ((wordsB v).map List.length).sum ≤ ((splitSp [] v).map List.length).sum:=h2
 simp only [List.length_nil] at h3
 omega
theorem wordsB_len (v : List UInt8) : (wordsB v).length ≤ v.length + 1:=Nat.le_trans (List.length_filter_le _ _) (splitSp_length v [])
theorem strs_bys (l : List (List UInt8)) : (strs l).map bys = l:=strs_data l
theorem ext_bytes (w : World) (e : TypeId) (s : ByteArray) : Ext w (Lib.bytesWorld w e s):=by
 refine ⟨?_,?_,?_,by rw [Lib.bytesWorld_size];omega,fun k hk=>Lib.bytesWorld_at_old w e s k hk⟩
 all_goals
  simp only [Lib.bytesWorld,World.freeze,World.alloc,World.drew]
  split <;> rfl
theorem parseint_ok (s : ByteArray) (n : Int) (w : World) (hs : s.size ≤ 4000000) (h : Lib.parseIntB 64 (bys s) = .ok n) :
 Calls Tryz.prog 135 #[.string s,.int .i64 10,.int .i64 64] w fun e w'=>e = .returned (.tuple #[.int .i64 n,.nilIface]) ∧ Ext w w':=by
 refine (Tryz.strconv_ParseInt_10_at64_ok s (by omega) n h w).mono ?_
 rintro e w' ⟨rfl,rfl | ⟨t,rfl⟩⟩
 ·exact ⟨rfl,Ext.refl _⟩
 ·exact ⟨rfl,ext_bytes _ _ _⟩
theorem parseint_bad (s : ByteArray) (w : World) (hG : Gl w) (hs : s.size ≤ 4000000) (h : ∀ n,Lib.parseIntB 64 (bys s) ≠ .ok n) :
 Calls Tryz.prog 135 #[.string s,.int .i64 10,.int .i64 64] w fun e w'=>(∃ n tp a,e = .returned (.tuple #[.int .i64 n,.iface tp (.pointer (some a))])) ∧ Ext w w':=by
 obtain ⟨-,⟨t1,p1,h1⟩,⟨t2,p2,h2⟩,-⟩:=hG
 rcases hp : Lib.parseIntB 64 (bys s) with n | _ | _
 ·exact absurd hp (h n)
 ·refine (Any.strconv_ParseInt_10_at64_syntax_var Tryz.laysC174 s (by omega) hp t1 p1 w h1).mono ?_
  rintro e w' ⟨N,rfl,_,_,hx⟩
  exact ⟨⟨_,_,_,rfl⟩,hx⟩
 ·refine (Tryz.strconv_ParseInt_10_at64_range_var s (by omega) hp t2 p2 w h2).mono ?_
  rintro e w' ⟨N,rfl,_,_,hx⟩
  exact ⟨⟨_,_,_,rfl⟩,hx⟩
theorem formatint_any (n : Int) (w : World) (hG : Gl w) (h0 : -9223372036854775808 ≤ n) (h1 : n ≤ 9223372036854775807) :
 Calls Tryz.prog 136 #[.int .i64 n,.int .i64 10] w fun e w'=>e = .returned (.string (str (Lib.itoa n))) ∧ Ext w w':=by
 refine (Tryz.strconv_FormatInt_10 n h0 h1 w hG.pow).mono ?_
 rintro e w' ⟨rfl,k,os,rfl⟩
 exact ⟨rfl,Lib.below_grow _ _ (Nat.le_refl _) _ _⟩
theorem trimdash_any (s : ByteArray) (w : World) :
 Calls Tryz.prog 137 #[.string s,.string ⟨#[45]⟩] w fun e w'=>e = .returned (.string (str (digsB (bys s)))) ∧ w' = w:=by
 refine (Tryz.strings_TrimPrefix s ⟨#[45]⟩ w).mono ?_
 rintro e w' ⟨rfl,rfl⟩
 refine ⟨?_,rfl⟩
 have e : Lib.trimPrefix s.data.toList (ByteArray.mk #[45]).data.toList = digsB (bys s):=trim_dash (bys s)
 rw [e]
theorem indexbyte_no (s : ByteArray) (k : Int) (c : UInt8) (hc : k.toNat.toUInt8 = c) (w : World) (h : c ∉ bys s) :
 Calls Tryz.prog 125 #[.string s,.int .u8 k] w fun e w'=>e = .returned (.int .i64 (-1)) ∧ w' = w:=by
 refine (Tryz.strings_IndexByte s k w).mono ?_
 rintro e w' ⟨rfl,rfl⟩
 have e : Lib.indexByte s.data.toList (k.toNat.toUInt8) = -1:=idxB_none (by rw [hc];exact h)
 rw [e]
 exact ⟨rfl,rfl⟩
theorem indexbyte_yes (s : ByteArray) (k : Int) (c : UInt8) (hc : k.toNat.toUInt8 = c) (w : World) (h : c ∈ bys s) :
 Calls Tryz.prog 125 #[.string s,.int .u8 k] w fun e w'=>(∃ i : Nat,e = .returned (.int .i64 i)) ∧ w' = w:=by
 refine (Tryz.strings_IndexByte s k w).mono ?_
 rintro e w' ⟨rfl,rfl⟩
 obtain ⟨i,e,_⟩:=idxB_some (l:=s.data.toList) (c:=k.toNat.toUInt8) (by rw [hc];exact h)
 rw [e]
 exact ⟨⟨i,rfl⟩,rfl⟩
theorem indexbyte_at (s : ByteArray) (k : Int) (c : UInt8) (hc : k.toNat.toUInt8 = c) (n : Int) (h : Lib.indexByte (bys s) c = n) (w : World) :
 Calls Tryz.prog 125 #[.string s,.int .u8 k] w fun e w'=>e = .returned (.int .i64 n) ∧ w' = w:=by
 refine (Tryz.strings_IndexByte s k w).mono ?_
 rintro e w' ⟨rfl,rfl⟩
 have e : Lib.indexByte s.data.toList (k.toNat.toUInt8) = n:=by rw [hc];exact h
 rw [e]
 exact ⟨rfl,rfl⟩
theorem u8_back (x : UInt8) : ((x.toNat : Int)).toNat.toUInt8 = x:=by rw [Int.toNat_natCast];exact UInt8.ofNat_toNat
end Go.Proofs.YtahahafhendgoaaGreatDoor
