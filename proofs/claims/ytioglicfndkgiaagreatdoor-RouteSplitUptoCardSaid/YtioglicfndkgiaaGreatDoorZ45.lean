/- Lemmas of the walk. -/
import Derived.Test.YtioglicfndkgiaaGreatDoorZ43
import Derived.Test.YtioglicfndkgiaaGreatDoorZ44
import Derived.Test.YtioglicfndkgiaaGreatDoorZ15
set_option maxHeartbeats 40000000
set_option linter.unusedVariables false
set_option linter.unusedSimpArgs false
namespace Go.Proofs.YtioglicfndkgiaaGreatDoor
open Go.RowKit
set_option maxRecDepth 100000
theorem zj0 {S S2:Nat→Prop} {A:Option Addr} {n c:Nat} {l:List Ent} {B:Option Addr} {m d:Nat} {cs:List CutR} {w:World} (h:Row Elem.ent S w A n c l) (hc:Row Elem.cut S2 w B m d cs) :
 Calls Tryz.prog 7 #[.slice A n c,.slice B m d] w (BoolSays w):=by
 have HR:=hid hc
 have hm:m≤9223372036854775807:=by have:=hc.cap;have:=hc.most;simp only [maxLen] at this;omega
 have hn:n≤9223372036854775807:=by have:=h.cap;have:=h.most;simp only [maxLen] at this;omega
 have HSM:∀ w',Ext w w'→Calls Tryz.prog 17 #[.slice A n c] w' (BoolSays w'):=fun w' hx=>zkS (h.ext hx)
 unfold BoolSays at HSM
 clear h hc
 show Calls _ _ _ _ (fun e w'=>BoolSays w e w')
 go_enter Tryz.func7,Tryz.ntmps7
 go_wp2
 go_loopw [8] (fun i wr=>∃ j:Nat,j≤m∧i=.int .i64 j∧Hid (Ext w wr)) (fun i _=>m-(intOf i).toNat)
 case atStart=>exact ⟨0,by omega,rfl,Ext.refl w⟩
 case round=>
  obtain ⟨j,hj,rfl,hx⟩:=hrel
  by_cases hlt:j<m
  ·obtain ⟨b1,o1,v1,x1,rfl,g1,-,r1,q1⟩:=(HR.out.ext hx.out).at_ hlt
   obtain ⟨nm1,sv1⟩:=x1
   cases r1
   have e10:=q1 0 _ rfl
   simp only [Elem.cut,CutR.cells,Nat.add_zero] at e10
   have hlt':(j:Int)<(m:Int):=by omega
   clear q1 g1
   by_cases h60:60≤j
   ·have h60':(60:Int)≤(j:Int):=by omega
    clear h60
    go_wp2
    go_ret
    exact BoolSays.of rfl hx.out
   ·have h60':¬ (60:Int)≤(j:Int):=by omega
    clear h60
    by_cases h3:3000<nm1.size
    ·have h3':(3000:Int)<(nm1.size:Int):=by omega
     clear h3
     go_wp2
     go_ret
     exact BoolSays.of rfl hx.out
    ·have h3':¬ (3000:Int)<(nm1.size:Int):=by omega
     clear h3
     go_wp2
     exact ⟨⟨j+1,by omega,by go_num,hx.out⟩,by simp [intOf];omega⟩
  ·obtain rfl:j=m:=by omega
   have hlt':¬ (j:Int)<(j:Int):=by omega
   by_cases hh:n≤100
   ·have hh':(n:Int)≤100:=by omega
    clear hh
    go_wp2_with (go_at_call 17;(with_reducible refine (HSM _ hx.out).mono ?_);rintro e w2 ⟨sm,rfl,hx2⟩;have HX2:=hid (hx.out.trans hx2);clear hx2;cases sm)
    all_goals go_ret
    all_goals exact BoolSays.of rfl HX2.out
   ·have hh':¬ (n:Int)≤100:=by omega
    clear hh
    go_wp2_with (go_at_call 17;(with_reducible refine (HSM _ hx.out).mono ?_);rintro e w2 ⟨sm,rfl,hx2⟩;have HX2:=hid (hx.out.trans hx2);clear hx2;cases sm)
    all_goals go_ret
    all_goals exact BoolSays.of rfl HX2.out
end Go.Proofs.YtioglicfndkgiaaGreatDoor
