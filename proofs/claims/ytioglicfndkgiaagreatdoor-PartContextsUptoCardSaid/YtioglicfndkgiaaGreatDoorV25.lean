/- Lemmas of the walk. -/
import Derived.Test.YtioglicfndkgiaaGreatDoorV22
import Derived.Test.YtioglicfndkgiaaGreatDoorV23
import Derived.Test.YtioglicfndkgiaaGreatDoorV24
import Derived.Test.YtioglicfndkgiaaGreatDoorV14
set_option maxHeartbeats 40000000
set_option linter.unusedVariables false
set_option linter.unusedSimpArgs false
namespace Go.Proofs.YtioglicfndkgiaaGreatDoor
open Go.RowKit
set_option maxRecDepth 100000
def zaR (s : List UInt8) : List UInt8 × Bool:=match okL (zaf s) with | []=>([],false) | _ :: t=>(zaW t,true)
def zb6 (w : World) (s : List UInt8) (e : Ending) (w' : World) : Prop:=e = .returned (.tuple #[.string (str (zaR s).1),.bool (zaR s).2]) ∧ Ext w w'
theorem zhe (x : List UInt8) (t : List (List UInt8)) : (zaW t).length ≤ (zaW (x :: t)).length:=by
 cases t with
 | nil=>simp [zaW]
 | cons y t=>rw [zen,zen,zkY];simp only [List.length_append,List.length_cons];omega
theorem zo2 (A : Option Addr) (n c l : Nat) (hlk : l ≤ n) (L : Int) (hL : L = l) :
 ∀ w,(Instr.sliceAt 55 (.slice A n c) (some (.int .i64 L)) none none).run Tryz.prog w = .ok (.slice (cutA A l c 1) (n - l) (c - l)) w:=by
 subst hL
 exact zlC A n c l hlk
theorem zdW (s : ByteArray) (w : World) (hG : Gl w) : Calls Tryz.prog 24 #[.string s] w (zb6 w (bys s)):=by
 have HPA:=zd9 s w hG
 unfold zbq at HPA
 have HD : Hid (zaR (bys s) = match okL (zaf (bys s)) with | []=>([],false) | _ :: t=>(zaW t,true)):=rfl
 have HSM:=hid (zdu (bys s))
 have HCD : Hid (zb6 w (bys s) = fun e w'=>e = .returned (.tuple #[.string (str (zaR (bys s)).1),.bool (zaR (bys s)).2]) ∧ Ext w w'):=rfl
 generalize okL (zaf (bys s)) = l at *
 generalize zaD (zaf (bys s)) = cd at *
 generalize zaR (bys s) = q at *
 cases l with
 | nil=>
  simp only at HD
  go_enter Tryz.func24,Tryz.ntmps24
  go_wp2_with (go_at_call 50;(with_reducible refine HPA.mono ?_);rintro e w1 ⟨A1,n1,c1,rfl,hr1,hx1⟩;have HX1:=hid hx1;obtain rfl : n1 = 0:=hr1.len;clear hr1 hx1)
  go_ret2
  rw [HCD.out,HD.out]
  exact ⟨rfl,HX1.out⟩
 | cons x t=>
  simp only at HD
  have HJ : ∀ A n c w',Row Elem.str (fun b=>w.heap.size ≤ b) w' A n c (strs (x :: t)) → Calls Tryz.prog 51 #[.slice (cutA A 1 c 1) (n - 1) (c - 1),.string ⟨#[44]⟩] w' fun e w''=>e = .returned (.string (str (zaW t))) ∧ Ext w' w'':=fun A n c w' hr=>by
   have hl : n = t.length + 1:=by rw [hr.len];simp
   have hr2:=hr.tail (k:=1) (by omega)
   have e : (strs (x :: t)).drop 1 = strs t:=rfl
   rw [e] at hr2
   have:=zec (strs t) ⟨#[44]⟩ hr2 (by rw [List.length_map];have:=HSM.out.1;simp only [List.length_cons] at this;omega) (by rw [zcJ];show (Lib.join t [44]).length ≤ _;rw [zhq];have:=HSM.out.2;have:=zhe x t;omega)
   rwa [zc0,show bys ⟨#[44]⟩ = [44] from rfl,zhq] at this
  clear HSM
  go_enter Tryz.func24,Tryz.ntmps24
  go_wp2_with (first
   | (go_at_call 50;(with_reducible refine HPA.mono ?_);rintro e w1 ⟨A1,n1,c1,rfl,hr1,hx1⟩;have HX1:=hid hx1;have hl1 : n1 = t.length + 1:=(by rw [hr1.len];simp);have t1 : ((n1 : Int) == 0) = false:=(by rw [beq_eq_false_iff_ne];omega);have hs1:=zo2 A1 n1 c1 1 (by omega) 1 rfl;have HJ1:=hid (HJ A1 n1 c1 w1 hr1);clear hx1 hr1 hl1)
   | (go_at_call 51;(with_reducible refine HJ1.out.mono ?_);rintro e w2 ⟨rfl,hx2⟩;have HX2:=hid hx2;clear hx2))
  go_ret2
  rw [HCD.out,HD.out]
  exact ⟨rfl,HX1.out.trans HX2.out⟩
def valZ (n v : List UInt8) : List UInt8 × Int:=
 if (zas n).2 ≠ 5 then zbU n v else if v = [] ∨ 200 < v.length then ([],2) else if zaD (zaf v) ≠ 0 then ([],2) else (za2 v,0)
def zcp (w : World) (n v : List UInt8) (e : Ending) (w' : World) : Prop:=e = .returned (.tuple #[.string (str (valZ n v).1),.int .i64 (valZ n v).2]) ∧ Ext w w'
def zge (n m x : List UInt8) : Bool:=(valZ n x).2 == 0 && decide ((valZ n x).1 = m)
def hasZ (n v : List UInt8) (l : List ByteArray) : Bool:=(valZ n v).2 == 0 && l.any fun x=>zge n (valZ n v).1 (bys x)
end Go.Proofs.YtioglicfndkgiaaGreatDoor
