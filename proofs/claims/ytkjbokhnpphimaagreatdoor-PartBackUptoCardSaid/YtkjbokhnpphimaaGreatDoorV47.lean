/- Lemmas of the walk. -/
import Derived.Test.YtkjbokhnpphimaaGreatDoorV44
import Derived.Test.YtkjbokhnpphimaaGreatDoorV45
set_option maxHeartbeats 40000000
set_option linter.unusedVariables false
set_option linter.unusedSimpArgs false
namespace Go.Proofs.YtkjbokhnpphimaaGreatDoor
open Go.RowKit
set_option maxRecDepth 100000
theorem zoR{S S2:Nat→Prop}{A:Option Addr}{n c:Nat}{l:List Ent}{B:Option Addr}{m d:Nat}{cs:List CutR}{w:World}(h:Row Elem.ent S w A n c l)(hc:Row Elem.cut S2 w B m d cs) :
 Calls Tryz.prog 7 #[.slice A n c,.slice B m d] w (BoolSays w):=by
 have HR:=hid hc
 have hm:m≤9223372036854775807:=by have:=hc.cap;have:=hc.most;simp only[maxLen] at this;omega
 have hn:n≤9223372036854775807:=by have:=h.cap;have:=h.most;simp only[maxLen] at this;omega
 have HSM:∀w',Ext w w'→Calls Tryz.prog 23 #[.slice A n c] w' (BoolSays w'):=fun w' hx=>zjO (h.ext hx)
 unfold BoolSays at HSM
 clear h hc
 show Calls _ _ _ _ (fun e w'=>BoolSays w e w')
 go_enter Tryz.func7,Tryz.ntmps7
 go_wp2
 go_loopw [8] (fun i wr=>∃j:Nat,j≤m∧i=.int .i64 j∧Hid (Ext w wr)) (fun i _=>m-(intOf i).toNat)
 case atStart=>exact⟨0,by omega,rfl,Ext.refl w⟩
 case round=>
  obtain⟨j,hj,rfl,hx⟩:=hrel
  by_cases hlt:j<m
  ·obtain⟨b1,o1,v1,x1,rfl,g1,-,r1,q1⟩:=(HR.out.ext hx.out).at_ hlt
   obtain⟨nm1,sv1⟩:=x1
   cases r1
   have e10:=q1 0 _ rfl
   simp only[Elem.cut,CutR.cells,Nat.add_zero] at e10
   have hlt':(j:Int)<(m:Int):=by omega
   clear q1 g1
   by_cases h60:60≤j
   ·have h60':(60:Int)≤(j:Int):=by omega
    clear h60
    go_wp2
    go_ret
    exact BoolSays.of rfl hx.out
   ·have h60':¬(60:Int)≤(j:Int):=by omega
    clear h60
    by_cases h3:3000<nm1.size
    ·have h3':(3000:Int)<(nm1.size:Int):=by omega
     clear h3
     go_wp2
     go_ret
     exact BoolSays.of rfl hx.out
    ·have h3':¬(3000:Int)<(nm1.size:Int):=by omega
     clear h3
     go_wp2
     exact⟨⟨j+1,by omega,by go_num,hx.out⟩,by simp[intOf];omega⟩
  ·obtain rfl:j=m:=by omega
   have hlt':¬(j:Int)<(j:Int):=by omega
   by_cases hh:n≤100
   have hh':(n:Int)≤100:=by omega
   rotate_left
   have hh':¬(n:Int)≤100:=by omega
   rotate_left
   all_goals
    clear hh
    go_wp2_with(go_at_call 23;(with_reducible refine(HSM _ hx.out).mono ?_);rintro e w2 ⟨sm,rfl,hx2⟩;have HX2:=hid (hx.out.trans hx2);clear hx2;cases sm)
    all_goals go_ret
    all_goals exact BoolSays.of rfl HX2.out
def wk15:Ent:=⟨⟨#[100,99,61,120]⟩,[zkd,zkp]⟩
def wkC:CutR:=⟨⟨#[100,99,61,120]⟩,0⟩
theorem zpq:zcE [100,99,61,120] [zkd,zkp]=true:=by decide +kernel
theorem zqK:(zcV [zkd,zkp]).2=false:=by decide +kernel
theorem zsX:zdB [wkC] [] = -1:=by decide +kernel
theorem zrL:EntFits wk15:=⟨by decide,by decide,by decide,by decide,by decide⟩
theorem zs2:OkOf [wk15]:=by
 refine⟨by decide,fun i e hi he=>?_,fun e he=>?_⟩
 ·obtain rfl:i=0:=by simp at hi;omega
  simp at he
  subst he
  exact⟨rfl,zpq⟩
 ·simp at he
  subst he
  unfold zdr
  rw[zao,show bys wk15.name=[100,99,61,120] from rfl,zhc,if_pos rfl]
theorem zqz:RightOk [wk15] [wkC] 1:=by
 refine⟨⟨by decide,by decide⟩,by decide,fun c hc=>?_,List.pairwise_singleton _ _,fun e he _=>⟨wkC,by simp,?_⟩⟩
 ·simp at hc
  subst hc
  exact⟨by decide,by decide,wk15,by simp,rfl,zqK⟩
 ·simp at he
  subst he
  rfl
theorem zsP:(topS (sortN nmQ [wkC])).length=1:=by
 have e:sortN nmQ [wkC]=[wkC]:=rfl
 have e2:upC [wkC] wkC = -1:=by
  unfold upC
  rw[show nmQ wkC=[100,99,61,120] from rfl,zhc]
  exact zsX
 rw[e]
 unfold topS
 rw[List.filter_cons_of_pos (by rw[e2];decide)]
 rfl
theorem zoi{w1 w2 w3 w4 w5 w6:World}(e2:w2=w1.alloc (.cells #[.string ⟨#[120]⟩] 9))(e3:w3=w2.alloc (.cells #[.string ⟨#[111]⟩] 9))
 (e4:w4=w3.alloc (.cells #[.string ⟨#[100,99]⟩,.slice (some ⟨w1.heap.size,0,none⟩) 1 1,.string ⟨#[111,98,106,101,99,116,67,108,97,115,115]⟩,.slice (some ⟨w1.heap.size+1,0,none⟩) 1 1] 55))
 (e5:w5=w4.alloc (.cells #[.string ⟨#[100,99,61,120]⟩,.slice (some ⟨w1.heap.size+1+1,0,none⟩) 2 2] 58)) (e6:w6=w5.alloc (.cells #[.string ⟨#[100,99,61,120]⟩,.int .i64 0] 60)) :
 Ext w1 w6∧Row Elem.ent (fun _=>True) w6 (some ⟨w1.heap.size+1+1+1,0,none⟩) 1 1 [wk15]∧Row Elem.cut (fun _=>True) w6 (some ⟨w1.heap.size+1+1+1+1,0,none⟩) 1 1 [wkC]:=by
 have s2:w2.heap.size=w1.heap.size+1:=by rw[e2];simp
 have x2:Ext w1 w2:=by rw[e2];exact Ext.alloc _ _
 have s3:w3.heap.size=w1.heap.size+1+1:=by rw[e3];simp[s2]
 have x3:Ext w2 w3:=by rw[e3];exact Ext.alloc _ _
 have s4:w4.heap.size=w1.heap.size+1+1+1:=by rw[e4];simp[s3]
 have x4:Ext w3 w4:=by rw[e4];exact Ext.alloc _ _
 have s5:w5.heap.size=w1.heap.size+1+1+1+1:=by rw[e5];simp[s4]
 have x5:Ext w4 w5:=by rw[e5];exact Ext.alloc _ _
 have x6:Ext w5 w6:=by rw[e6];exact Ext.alloc _ _
 have r1:Row Elem.str (fun _=>True) w2 (some ⟨w1.heap.size,0,none⟩) 1 1 [⟨#[120]⟩]:=by rw[e2];exact Row.one (E:=Elem.str) (S:=fun _=>True) (v:=[.string ⟨#[120]⟩]) rfl _
 have r2:Row Elem.str (fun _=>True) w3 (some ⟨w1.heap.size+1,0,none⟩) 1 1 [⟨#[111]⟩]:=by rw[e3,←s2];exact Row.one (E:=Elem.str) (S:=fun _=>True) (v:=[.string ⟨#[111]⟩]) rfl _
 have q1:=r1.ext x3
 have r3:Row Elem.att (fun _=>True) w4 (some ⟨w1.heap.size+1+1,0,none⟩) 2 2 [zkd,zkp]:=by
  rw[e4,←s3]
  refine Row.lit2 (E:=Elem.att) (vss:=[[.string ⟨#[100,99]⟩,.slice (some ⟨w1.heap.size,0,none⟩) 1 1],[.string ⟨#[111,98,106,101,99,116,67,108,97,115,115]⟩,.slice (some ⟨w1.heap.size+1,0,none⟩) 1 1]]) (l:=[zkd,zkp]) (fun i v x hv hx=>?_) rfl (by decide) _
  rcases i with _|_|i
  ·simp at hv hx;subst hv hx;exact⟨_,_,_,rfl,q1⟩
  ·simp at hv hx;subst hv hx;exact⟨_,_,_,rfl,r2⟩
  ·simp at hv
 have r4:Row Elem.ent (fun _=>True) w5 (some ⟨w1.heap.size+1+1+1,0,none⟩) 1 1 [wk15]:=by
  rw[e5,←s4]
  exact Row.one (E:=Elem.ent) (S:=fun _=>True) (v:=[.string ⟨#[100,99,61,120]⟩,.slice (some ⟨w1.heap.size+1+1,0,none⟩) 2 2]) ⟨_,_,_,rfl,r3⟩ _
 have r5:Row Elem.cut (fun _=>True) w6 (some ⟨w1.heap.size+1+1+1+1,0,none⟩) 1 1 [wkC]:=by
  rw[e6,←s5]
  exact Row.one (E:=Elem.cut) (S:=fun _=>True) (v:=[.string ⟨#[100,99,61,120]⟩,.int .i64 0]) (show Elem.cut.R (fun _=>True) _ [.string ⟨#[100,99,61,120]⟩,.int .i64 0] wkC from rfl) _
 exact⟨x2.trans (x3.trans (x4.trans (x5.trans x6))),r4.ext x6,r5⟩
theorem zlq(w:World)(hG:Gu w):Calls Tryz.prog 6 #[] w fun e w'=>e=.returned (.bool true)∧Ext w w':=by
 have HSP:∀A1 B1 w6,Ext w w6∧Row Elem.ent (fun _=>True) w6 A1 1 1 [wk15]∧Row Elem.cut (fun _=>True) w6 B1 1 1 [wkC]→Calls Tryz.prog 8 #[.slice A1 1 1,.slice B1 1 1,.int .i64 1] w6 fun e w'=>∃A B d,e=.returned (.tuple #[.agg #[.slice A 1 1,.slice B 1 d],.int .i64 0])∧Ext w6 w':=fun A1 B1 w6 hh=>
  (zeC hh.2.1 hh.2.2 1 (hG.ext hh.1) (fun e he=>by simp at he;subst he;exact zrL) (by decide) (by decide)).mono fun e w' h=>by
    rcases h with⟨-,-,A,B,m,d,h1,-,h3,h4⟩|⟨h1,-⟩
    ·obtain rfl:m=1:=by have:=h3.len;rw[zsP] at this;exact this
     exact⟨A,B,d,h1,h4⟩
    ·exact absurd ⟨zs2,zqz⟩ h1
 clear hG
 go_enter Tryz.func6,Tryz.ntmps6
 go_wp2_with(go_at_call 8;(with_reducible refine(HSP _ _ _ (zoi rfl rfl rfl rfl rfl)).mono ?_);rintro e w7 ⟨A7,B7,d7,rfl,hx7⟩;have HX7:=hid ((zoi (w1:=w) rfl rfl rfl rfl rfl).1.trans hx7);have HBX:=hid (Bx.make (Ext.refl w7) #[.slice A7 1 1,.slice B7 1 d7] 29);have c0:=HBX.out.cell (i:=0) rfl;have c1:=HBX.out.cell (i:=1) rfl;clear hx7)
 go_ret
 exact⟨rfl,HX7.out.trans HBX.out.ext⟩
end Go.Proofs.YtkjbokhnpphimaaGreatDoor
