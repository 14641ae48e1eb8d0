/- Lemmas of the walk. -/
import Derived.Test.YtkjbokhnpphimaaGreatDoorV39
set_option maxHeartbeats 40000000
set_option linter.unusedVariables false
set_option linter.unusedSimpArgs false
namespace Go.Proofs.YtkjbokhnpphimaaGreatDoor
open Go.RowKit
set_option maxRecDepth 100000
theorem znU{S:Nat→Prop}{w:World}{us:List (List Value)}{l:List CutR}(hl:us.length=l.length)(h:∀(i:Nat) u x,us[i]?=some u→l[i]?=some x→Elem.cut.R S w u x):us=l.map CutR.cells∧∀c∈us.flatten,c.oneCell'=true:=by
 have e:us=l.map CutR.cells:=by
  apply List.ext_getElem?
  intro i
  rw[List.getElem?_map]
  by_cases hi:i<l.length
  ·rw[List.getElem?_eq_getElem hi,List.getElem?_eq_getElem (show i<us.length by omega)]
   have:=h i _ _ (List.getElem?_eq_getElem (show i<us.length by omega)) (List.getElem?_eq_getElem hi)
   simp only[Elem.cut] at this
   rw[this]
   rfl
  ·rw[List.getElem?_eq_none (by omega),List.getElem?_eq_none (by omega)]
   rfl
 refine⟨e,?_⟩
 subst e
 intro c hc
 obtain⟨u,hu,hcu⟩:=List.mem_flatten.1 hc
 obtain⟨x,-,rfl⟩:=List.mem_map.1 hu
 simp only[CutR.cells,List.mem_cons,List.not_mem_nil,or_false] at hcu
 rcases hcu with rfl|rfl<;>rfl
theorem zjL{S:Nat→Prop}{A:Option Addr}{n c:Nat}{l:List CutR}{w:World}(h:Row Elem.cut S w A n c l)(hm:l.length≤4000000) :
 Calls Tryz.prog 57 #[.slice A n c] w fun e w'=>∃v,e=.returned v∧GrowM Elem.cut S 60 none w w' v l:=by
 have hl:=h.len
 rcases A with _|a
 ·have hx:l=[]:=by
   rcases Nat.eq_zero_or_pos n with h0|h0
   ·exact h.nil_iff.1 h0
   ·obtain⟨b,o,v,x,e,_⟩:=h.at_ h0;cases e
  subst hx
  have hz:=fun W=>Lib.run_eql_slice_nil (P:=Tryz.prog) W 27 60 none n c 0 0 Tryz.underlying27
  clear hl h
  go_enter Tryz.func57,Tryz.ntmps57
  go_wp2
  go_ret
  exact⟨_,rfl,GrowM.nil (Ext.refl w) (fun g hg=>by cases hg)⟩
 ·have hz:=fun W=>Lib.run_eql_slice_nil (P:=Tryz.prog) W 27 60 (some a) n c 0 0 Tryz.underlying27
  obtain⟨us,u1,u2,u3⟩:=h.cut_open
  have HU1:=hid u1
  have HC:=hid (u2.below (Ext.alloc w (.cells #[] 60)))
  have HO:=hid (znU u1 u3).2
  have HG:=hid (GrowM.lit0 (E:=Elem.cut) (S:=S) (T:=60) w)
  have HE:Hid (∀(i:Nat) u y,us[i]?=some u→l[i]?=some y→Elem.cut.R (zcD S (.slice (some ⟨w.heap.size,0,none⟩) 0 0) none) (w.alloc (.cells #[] 60)) u y):=fun i u y hi hy=>HG.out.old (fun _ _ hb=>hb) (u3 i u y hi hy)
  have HL:=hid hl
  have HN:Hid (n≤4000000):=by show _≤_;omega
  clear hl h hm u1 u2 u3
  go_enter Tryz.func57,Tryz.ntmps57
  go_wp2_with(at_builtin;refine zjp Tryz.underlying27 zhI rfl (by decide) rfl _ _ rfl _ _ rfl HG.out us l HU1.out HE.out HO.out rfl HL.out HC.out (by have:=HN.out;simp only[List.length_nil];omega) ?_;intro v' w1 hg1 _ _;have HG1:=hid hg1;clear hg1)
  go_ret
  exact⟨_,rfl,by have:=HG1.out;rwa[List.nil_append] at this⟩
theorem zp6(x y:CutC)(w:World)(hG:Gl w):Calls Tryz.prog 59 #[.agg #[x.c0,x.c1],.agg #[y.c0,y.c1]] w fun e w'=>e=.returned (.int .i64 (zbc (bys x.name) (bys y.name)))∧Ext w w':=by
 have HC:∀w',Ext w w'→Calls Tryz.prog 60 #[.string x.name,.string y.name] w' fun e w''=>e=.returned (.int .i64 (zbc (bys x.name) (bys y.name)))∧Ext w' w'':=fun w' hx=>zdO x.name y.name w' (hG.ext hx)
 clear hG
 obtain⟨xn,xs⟩:=x
 obtain⟨yn,ys⟩:=y
 simp only[CutC.c0,CutC.c1] at*
 generalize zbc (bys xn) (bys yn)=k at*
 go_enter Tryz.func59,Tryz.ntmps59
 go_wp2_with(go_at_call 60;(with_reducible refine(HC _ ((Ext.alloc _ _).trans (Ext.alloc _ _))).mono ?_);rintro e w1 ⟨rfl,hx1⟩;have HX1:=hid (((Ext.alloc _ _).trans (Ext.alloc _ _)).trans hx1);clear hx1)
 go_ret
 exact⟨rfl,HX1.out⟩
def toC(c:CutR):CutC:=⟨c.name,c.server⟩
def ofC(c:CutC):CutR:=⟨c.name,c.srv⟩
theorem zpp(l:List CutR):(l.map CutR.cells).flatten=((l.map toC).map (two CutC.c0 CutC.c1)).flatten:=by rw[List.map_map];rfl
theorem zo8(l:List CutC):(l.map (two CutC.c0 CutC.c1)).flatten=((l.map ofC).map CutR.cells).flatten:=by rw[List.map_map];rfl
theorem GrowM.toV{S:Nat→Prop}{w wr:World}{v:Value}{l:List CutR}(h:GrowM Elem.cut S 60 none w wr v l):GVC w wr v (l.map toC):=by
 obtain⟨⟨vss,h1,h2,h3⟩,h4,-⟩:=h
 have e:=(znU h1 h3).1
 refine⟨?_,h4⟩
 rw[e,zpp] at h2
 rw[List.length_map]
 exact h2
theorem GVC.rowC{w wr:World}{v:Value}{l:List CutC}(h:GVC w wr v l):∃A c,v=.slice A l.length c∧Row Elem.cut (fun b=>w.heap.size≤b) wr A l.length c (l.map ofC):=by
 have ho:=h.own
 rw[zo8] at ho
 obtain⟨A,c,rfl⟩:∃A c,v=.slice A l.length c:=by
  rcases ho.2 with⟨e,h0⟩|⟨g,cap,cur,e,_⟩
  ·exact⟨none,0,by rw[h0,e]⟩
  ·exact⟨_,_,e⟩
 have hl:(l.map ofC).length=l.length:=List.length_map _
 refine⟨A,c,rfl,?_⟩
 rw[←hl] at ho ⊢
 exact ze9 ho rfl (List.length_map _) (fun g hg=>(ho.lt g hg).1) fun i u x hi hx=>by
  rw[List.getElem?_map,hx] at hi
  injection hi with hi
  exact hi.symm
theorem zia{S:Nat→Prop}{A:Option Addr}{n c:Nat}{l:List CutR}{w:World}(h:Row Elem.cut S w A n c l)(hG:Gl w)(hm:l.length≤4000000)(hs:∀x∈l,zbZ (nmQ x)=true)(ha:Apart nmQ l) :
 Calls Tryz.prog 26 #[.slice A n c] w fun e w'=>∃A' n' c',e=.returned (.slice A' n' c')∧Row Elem.cut (fun b=>w.heap.size≤b) w' A' n' c' (sortN nmQ l)∧Ext w w':=by
 have HCL:=zjL h hm
 have HG:=hid hG
 have HS:Hid (∀l',StOk (ltKC fun x y=>zbc (bys x.name) (bys y.name)) (l.map toC) l'→l'.map ofC=sortN nmQ l):=fun l' hl'=>by
  have h1:∀x∈l.map toC,zbZ (bys x.name)=true:=fun x hx=>by obtain⟨y,hy,rfl⟩:=List.mem_map.1 hx;exact hs y hy
  have h2:Apart (fun x:CutC=>bys x.name) (l.map toC):=by show List.Pairwise _ _;rw[List.pairwise_map];exact ha
  have e1:l'=sortN (fun x:CutC=>bys x.name) (l.map toC):=hl'.sortN (f:=fun x:CutC=>bys x.name) h1 h2
  obtain⟨p,q⟩:=zbo h1 h2
  rw[←e1] at p q
  refine zcL hs ha ?_ ?_
  ·have:=p.map ofC
   rw[List.map_map] at this
   have e2:l.map (ofC ∘ toC)=l:=by rw[show(ofC ∘ toC)=id from rfl,List.map_id]
   rwa[e2] at this
  ·show List.Pairwise _ _
   rw[List.pairwise_map]
   exact q
 have HNIL:Hid (l=[]→sortN nmQ l=[]):=fun e=>by rw[e];rfl
 have HLM:=hid hm
 clear h hG hs ha hm
 go_enter Tryz.func26,Tryz.ntmps26
 go_wp2_with(go_at_call 57;(with_reducible refine HCL.mono ?_);rintro e w1 ⟨v1,rfl,hg1⟩;have HG1:=hid hg1;clear hg1)
 rcases HG1.out.forms with⟨rfl,hz⟩|⟨g9,n9,c9,rfl,hn9⟩
 ·have HL:=hid (HNIL.out hz)
  have HX1:=hid HG1.out.ext
  clear hz
  go_wp2_with(go_at_call 58;(with_reducible refine(zou _).mono ?_);rintro e w2 ⟨rfl,hx2⟩;have HX2:=hid (HX1.out.trans hx2);clear hx2)
  go_ret
  exact⟨none,0,0,rfl,by rw[HL.out];exact Row.nil _ _ _,HX2.out⟩
 ·have HST:=zo3 (K:=fun x y=>zbc (bys x.name) (bys y.name)) (P:=fun _=>True) (w0:=w) (w:=w1) (fun wr hx x y _ _=>zp6 x y wr (HG.out.ext hx)) HG1.out.toV (fun _ _=>trivial) (by have:=HLM.out;omega)
  unfold zb9 at HST
  clear hn9
  go_wp2_with(go_at_call 58;(with_reducible refine HST.mono ?_);rintro e w2 ⟨rfl,⟨l',hg,hst⟩,-⟩;have HR:=hid hg;have HL:=hid (HS.out l' hst);clear hg hst)
  go_ret
  obtain⟨A6,c6,hv,hr⟩:=GVC.rowC HR.out
  rw[HL.out] at hr
  rw[hv]
  exact⟨A6,_,c6,rfl,hr,HR.out.ext⟩
end Go.Proofs.YtkjbokhnpphimaaGreatDoor
