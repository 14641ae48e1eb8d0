/- Lemmas of the walk. -/
import Derived.Test.YtioglicfndkgiaaGreatDoorZ24
import Derived.BigQuiet
import Derived.Deep.QuietTactic
set_option maxHeartbeats 40000000
set_option linter.unusedVariables false
set_option linter.unusedSimpArgs false
namespace Go.Proofs.YtioglicfndkgiaaGreatDoor
open Go.RowKit
set_option maxRecDepth 100000
theorem zhW {α:Type} {l l':List α} {n:Nat} (h1:n=l.length) (h2:n=l'.length) (h:l.take n=l'.take n):l=l':=by
 rwa [List.take_of_length_le (by omega),List.take_of_length_le (by omega)] at h
theorem CellsIn.drop {S:Nat→Prop} {w:World} {A:Option Addr} {vs:List Value} (h:CellsIn S w A vs) (k:Nat):CellsIn S w (A.map (·.add k)) (vs.drop k):=by
 rcases h with h | ⟨b,off,hA,hS,hc⟩
 ·exact .inl (by simp [h])
 ·refine .inr ⟨b,off+k,by simp [hA,zeJ],hS,fun j u hj=>?_⟩
  rw [List.getElem?_drop] at hj
  rw [Nat.add_assoc]
  exact hc _ u hj
theorem CellsIn.take {S:Nat→Prop} {w:World} {A:Option Addr} {vs:List Value} (h:CellsIn S w A vs) (k:Nat):CellsIn S w A (vs.take k):=by
 rcases h with h | ⟨b,off,hA,hS,hc⟩
 ·exact .inl (by simp [h])
 ·refine .inr ⟨b,off,hA,hS,fun j u hj=>hc j u ?_⟩
  rw [List.getElem?_take] at hj
  split at hj
  ·exact hj
  ·cases hj
theorem zgE {K:Nat}:∀ {vss:List (List Value)} (k:Nat),(∀ v∈vss,v.length=K)→(vss.drop k).flatten=vss.flatten.drop (k * K)
 | [],k,_=>by simp
 | v::vss,0,_=>by simp
 | v::vss,k+1,h=>by
  have h0:=h v (by simp)
  have hd:v.drop ((k+1) * K)=[]:=List.drop_eq_nil_of_le (by rw [h0,Nat.succ_mul];omega)
  rw [List.drop_succ_cons,zgE k (fun u hu=>h u (by simp [hu])),List.flatten_cons,List.drop_append,hd,h0,List.nil_append]
  congr 1
  rw [Nat.succ_mul];omega
theorem zgK {K:Nat}:∀ {vss:List (List Value)} (k:Nat),(∀ v∈vss,v.length=K)→(vss.take k).flatten=vss.flatten.take (k * K)
 | [],k,_=>by simp
 | v::vss,0,_=>by simp
 | v::vss,k+1,h=>by
  have h0:=h v (by simp)
  have hd:v.take ((k+1) * K)=v:=List.take_of_length_le (by rw [h0,Nat.succ_mul];omega)
  rw [List.take_succ_cons,List.flatten_cons,zgK k (fun u hu=>h u (by simp [hu])),List.flatten_cons,List.take_append,hd,h0]
  congr 2
  rw [Nat.succ_mul];omega
section
variable {α:Type} {E:Elem α} {S:Nat→Prop} {w:World} {A:Option Addr} {n c:Nat} {l:List α}
theorem Row.lens {vss:List (List Value)} (h1:n=l.length) (h4:vss.length=n) (h6:∀ (i:Nat) v x,vss[i]?=some v→l[i]?=some x→E.R S w v x):∀ v∈vss,v.length=E.k:=by
 intro v hv
 obtain ⟨j,hj,rfl⟩:=List.mem_iff_getElem.1 hv
 exact E.len (h6 j vss[j] (l[j]'(by omega)) (List.getElem?_eq_getElem hj) (List.getElem?_eq_getElem (by omega)))
theorem Row.tail (h:Row E S w A n c l) {k:Nat} (hk:k≤n):Row E S w (cutA A k c E.k) (n-k) (c-k) (l.drop k):=by
 obtain ⟨h1,h2,h3,vss,h4,h5,h6⟩:=h
 refine ⟨by rw [List.length_drop,h1],by omega,by omega,vss.drop k,by rw [List.length_drop,h4],?_,fun i v x hi hx=>h6 (k+i) v x (by rwa [List.getElem?_drop] at hi) (by rwa [List.getElem?_drop] at hx)⟩
 rw [zgE k (Row.lens h1 h4 h6)]
 unfold cutA
 split
 ·rename_i hc
  refine .inl (List.drop_eq_nil_of_le ?_)
  have:vss.flatten.length=n * E.k:=by
   have e:∀ (u:List (List Value)),(∀ v∈u,v.length=E.k)→u.flatten.length=u.length * E.k:=by
    intro u
    induction u with
    | nil=>intro _;simp
    | cons v t ih=>intro hh;rw [List.flatten_cons,List.length_append,ih (fun x hx=>hh x (by simp [hx])),hh v (by simp),List.length_cons,Nat.succ_mul];omega
   rw [e vss (Row.lens h1 h4 h6),h4]
  rw [this]
  exact Nat.mul_le_mul_right _ (by omega)
 ·exact h5.drop (k * E.k)
theorem Row.head (h:Row E S w A n c l) {k:Nat} (hk:k≤n):Row E S w (cutA A 0 c E.k) k c (l.take k):=by
 obtain ⟨h1,h2,h3,vss,h4,h5,h6⟩:=h
 refine ⟨by rw [List.length_take];omega,by omega,h3,vss.take k,by rw [List.length_take];omega,?_,fun i v x hi hx=>?_⟩
 ·rw [zgK k (Row.lens h1 h4 h6)]
  unfold cutA
  split
  ·rename_i hc
   refine .inl ?_
   have:k=0:=by omega
   subst this
   simp
  ·have:=(h5.drop 0).take (k * E.k)
   simpa using this
 ·rw [List.getElem?_take] at hi hx
  split at hi
  ·rename_i hlt
   rw [if_pos hlt] at hx
   exact h6 i v x hi hx
  ·cases hi
end
theorem zfK:Tryz.prog.underlying 55=some (.slice (Tryz.prog.elem 55)):=by kernel_rfl
theorem zkf (w:World):(sizeOf (Tryz.prog.elem 55)).run Tryz.prog w=.ok 1 w:=by kernel_rfl
theorem zmm (A:Option Addr) (n c l:Nat) (hlk:l≤n) :
 ∀ w,(Instr.sliceAt 55 (.slice A n c) (some (.int .i64 (l:Int))) none none).run Tryz.prog w=.ok (.slice (cutA A l c 1) (n-l) (c-l)) w:=fun w=>by
 have h1:(l:Int)≤(n:Int):=by omega
 have:=run_slice_l (P:=Tryz.prog) w 55 A n c zfK .i64 (l:Int) (by omega) h1
 rw [run_sliceAt_slice w 55 _ _ _ _ zfK,this,zkf]
 simp only [sliced,cutA,Result.andThen,Int.toNat_natCast]
theorem zjn (A:Option Addr) (n c k:Nat) (hlk:k≤c) :
 ∀ w,(Instr.sliceAt 55 (.slice A n c) none (some (.int .i64 (k:Int))) none).run Tryz.prog w=.ok (.slice (cutA A 0 c 1) k c) w:=fun w=>by
 have h2:(k:Int)≤(c:Int):=by omega
 have:=run_slice_h (P:=Tryz.prog) w 55 A n c zfK .i64 (k:Int) (by omega) h2
 rw [run_sliceAt_slice w 55 _ _ _ _ zfK,this,zkf]
 simp only [sliced,cutA,Result.andThen,Int.toNat_natCast,Nat.sub_zero]
end Go.Proofs.YtioglicfndkgiaaGreatDoor
namespace Go.Proofs.YtioglicfndkgiaaGreatDoor
open Go.RowKit
set_option maxRecDepth 100000
theorem zhy (n s:ByteArray) (w:World) (hG:Gl w) (hn:n.size≤4000000) (h4:(zar (bys n)).2≠4) (h5:(zar (bys n)).2≠5) :
 Calls Tryz.prog 67 #[.string n,.string s] w (zb3 w (bys n) (bys s)):=by
 have HG:=hid hG
 have HT:∀ w,Calls Tryz.prog 61 #[.string n] w (zaT w (bys n)):=fun w=>zdg n w (by simp only [maxLen];omega)
 have HN:∀ w,Gl w→Calls Tryz.prog 96 #[.string n,.string s] w (zb3 w (bys n) (bys s)):=fun w hG=>zeF n s w hG hn h4
 unfold zaT at HT
 unfold zb3 at HN
 have HND:Hid (zb3 w (bys n) (bys s)=fun e w'=>e=.returned (.tuple #[.string (str (zbW (bys n) (bys s)).1),.int .i64 (zbW (bys n) (bys s)).2])∧Ext w w'):=rfl
 have t5:(((zar (bys n)).2:Int) != 5)=true:=by rw [bne_iff_ne];omega
 clear hG h4 h5
 generalize zar (bys n)=p at *
 obtain ⟨t,k⟩:=p
 generalize zbW (bys n) (bys s)=q at *
 obtain ⟨q1,q2⟩:=q
 simp only at HT t5 HN
 go_enter Tryz.func67,Tryz.ntmps67
 go_wp2_with (first
  | (go_at_call 61;(with_reducible refine (HT _).mono ?_);rintro e w1 ⟨rfl,hx1⟩;have HX1:=hid hx1;clear hx1)
  | (go_at_call 96;(with_reducible refine (HN _ (HG.out.ext HX1.out)).mono ?_);rintro e w2 ⟨rfl,hx2⟩;have HX2:=hid hx2;clear hx2))
 go_ret2
 rw [HND.out]
 exact ⟨rfl,HX1.out.trans HX2.out⟩
def zgq (n m x:List UInt8):Bool:=(zbW n x).2==0 && decide ((zbW n x).1=m)
def hasE (n v:List UInt8) (l:List ByteArray):Bool:=(zbW n v).2==0 && l.any fun x=>zgq n (zbW n v).1 (bys x)
theorem zdE {α:Type} {p:α→Bool} {l:List α} {j:Nat} {x:α} (h:(l.take j).any p=false) (hx:l[j]?=some x) (hp:p x=false):(l.take (j+1)).any p=false:=by
 rw [List.take_add_one,hx]
 simp only [Option.toList,List.any_append,h,List.any_cons,hp,List.any_nil,Bool.or_self]
theorem ziY {α:Type} {p:α→Bool} {l:List α} {j:Nat} {x:α} (hx:l[j]?=some x) (hp:p x=true):l.any p=true:=List.any_eq_true.2 ⟨x,List.mem_of_getElem? hx,hp⟩
theorem zmr (a:ByteArray):str (bys a)=a:=rfl
theorem zpX (n m x:ByteArray) (g1 g2:Nat) (w:World) (hG:Gl w) (hn:n.size≤4000000) (h4:(zar (bys n)).2≠4) (h5:(zar (bys n)).2≠5)
 (hc1:w.cell? ⟨g1,0,none⟩=some (.string n)) (hc2:w.cell? ⟨g2,0,none⟩=some (.string m)) :
 Calls Tryz.prog 82 #[.string x,.pointer (some ⟨g1,0,none⟩),.pointer (some ⟨g2,0,none⟩)] w fun e w'=>e=.returned (.bool (zgq (bys n) (bys m) (bys x)))∧Ext w w':=by
 have HG:=hid hG
 have HV:∀ w,Gl w→Calls Tryz.prog 67 #[.string n,.string x] w (zb3 w (bys n) (bys x)):=fun w hG=>zhy n x w hG hn h4 h5
 unfold zb3 at HV
 have HLD:Hid (zgq (bys n) (bys m) (bys x)=((zbW (bys n) (bys x)).2==0 && decide ((zbW (bys n) (bys x)).1=bys m))):=rfl
 have HC2:=hid hc2
 clear hG h4 h5 hn hc2
 generalize zgq (bys n) (bys m) (bys x)=r at *
 generalize zbW (bys n) (bys x)=q at *
 obtain ⟨q1,q2⟩:=q
 simp only at HV HLD
 have k1:(q2==0)=true∨(q2==0)=false:=by cases q2==0 <;> simp
 have k2:((str q1).toList==m.toList)=true∧Hid (decide (q1=bys m)=true)∨((str q1).toList==m.toList)=false∧Hid (decide (q1=bys m)=false):=by
  by_cases h:str q1=m
  ·exact .inl ⟨zes h,decide_eq_true (by rw [← h,zao])⟩
  ·exact .inr ⟨zd9 h,decide_eq_false (fun e=>h (by rw [e,zmr]))⟩
 rcases k1 with k1 | k1 <;> rcases k2 with ⟨k2,HK2⟩ | ⟨k2,HK2⟩
 all_goals
  rw [k1,HK2.out] at HLD
  generalize str q1=qs at *
  go_enter Tryz.func82,Tryz.ntmps82
  go_wp2_with (go_at_call 67;(with_reducible refine (HV _ HG.out).mono ?_);rintro e w1 ⟨rfl,hx1⟩;have HX1:=hid hx1;have hc3:=zaa HC2.out _ hx1;clear hx1)
  go_ret
  exact ⟨by rw [HLD.out];rfl,HX1.out⟩
theorem zi3 {S:Nat→Prop} {A:Option Addr} {n c:Nat} {l:List ByteArray} {w:World} (h:Row Elem.str S w A n c l) (nm m:ByteArray) (g1 g2:Nat) (hG:Gl w) (hn:nm.size≤4000000) (h4:(zar (bys nm)).2≠4) (h5:(zar (bys nm)).2≠5)
 (hc1:w.cell? ⟨g1,0,none⟩=some (.string nm)) (hc2:w.cell? ⟨g2,0,none⟩=some (.string m)) :
 Calls Tryz.prog 68 #[.slice A n c,.func (.func 82) #[] #[.pointer (some ⟨g1,0,none⟩),.pointer (some ⟨g2,0,none⟩)]] w fun e w'=>
  ∃ r:Int,e=.returned (.int .i64 r)∧decide (0≤r)=l.any (fun x=>zgq (bys nm) (bys m) (bys x))∧Ext w w':=by
 have hl:=hid h.len
 have hnl:n≤9223372036854775807:=by have:=h.cap;have:=h.most;simp only [maxLen] at this;omega
 have HC:∀ x wr,Ext w wr→Calls Tryz.prog 82 #[.string x,.pointer (some ⟨g1,0,none⟩),.pointer (some ⟨g2,0,none⟩)] wr fun e w'=>e=.returned (.bool (zgq (bys nm) (bys m) (bys x)))∧Ext wr w':=
  fun x wr hx=>zpX nm m x g1 g2 wr (hG.ext hx) hn h4 h5 (zaa hc1 _ hx) (zaa hc2 _ hx)
 clear hG h4 h5 hn hc1 hc2
 generalize hP:(fun x:ByteArray=>zgq (bys nm) (bys m) (bys x))=P at *
 have HC2:∀ x wr,Ext w wr→Calls Tryz.prog 82 #[.string x,.pointer (some ⟨g1,0,none⟩),.pointer (some ⟨g2,0,none⟩)] wr fun e w'=>e=.returned (.bool (P x))∧Ext wr w':=fun x wr hx=>by rw [← hP];exact HC x wr hx
 clear hP HC
 go_enter Tryz.func68,Tryz.ntmps68
 go_wp2
 go_loopw [8] (fun i wr=>∃ j:Nat,j≤n∧i=.int .i64 j∧Hid ((l.take j).any P=false)∧Hid (Ext w wr)) (fun i _=>n-(intOf i).toNat)
 case atStart=>exact ⟨0,by omega,rfl,by simp [Hid],Ext.refl w⟩
 case round=>
  obtain ⟨j,hj,rfl,Htk,hx⟩:=hrel
  by_cases hlt:j<n
  ·obtain ⟨b1,o1,rfl,c1⟩:=(h.ext hx.out).str_cell (by omega)
   have e1:=c1 j hlt
   clear c1
   have g1:l[j]?=some (l[j]?.getD ByteArray.empty):=by have:=hl.out;rw [List.getElem?_eq_getElem (by omega)];simp
   have Hg:=hid g1
   clear g1
   generalize l[j]?.getD ByteArray.empty=x1 at *
   cases hp:P x1
   ·have Hp:=hid hp
    clear hp
    go_wp2_with (go_at_call 82;(with_reducible refine (HC2 _ _ hx.out).mono ?_);rintro e w1 ⟨he,hx1⟩;rw [Hp.out] at he;subst he;have HX1:=hid hx1;clear hx1)
    exact ⟨⟨j+1,by omega,by go_num,zdE Htk.out Hg.out Hp.out,hx.out.trans HX1.out⟩,by simp [intOf];omega⟩
   ·have Hp:=hid hp
    clear hp
    go_wp2_with (go_at_call 82;(with_reducible refine (HC2 _ _ hx.out).mono ?_);rintro e w1 ⟨he,hx1⟩;rw [Hp.out] at he;subst he;have HX1:=hid hx1;clear hx1)
    go_ret
    exact ⟨_,rfl,by rw [ziY Hg.out Hp.out];exact decide_eq_true (by omega),hx.out.trans HX1.out⟩
  ·obtain rfl:j=n:=by omega
   go_wp2
   go_ret
   have h9:=Htk.out
   rw [List.take_of_length_le (Nat.le_of_eq hl.out.symm)] at h9
   exact ⟨_,rfl,by rw [h9];rfl,hx.out⟩
end Go.Proofs.YtioglicfndkgiaaGreatDoor
