/- Lemmas of the walk that the last text of this claim joins. -/
import Derived.Test.YtahahafhendgoaaGreatDoorZ35
import Derived.Test.YtahahafhendgoaaGreatDoorZ43
import Derived.Test.YtahahafhendgoaaGreatDoorZ38
import Derived.Test.YtahahafhendgoaaGreatDoorZ41
import Derived.Test.YtahahafhendgoaaGreatDoorZ39
import Derived.Test.YtahahafhendgoaaGreatDoorZ34
import Derived.Test.YtahahafhendgoaaGreatDoorZ44
import Derived.Test.YtahahafhendgoaaGreatDoorZ31
import Derived.Test.YtahahafhendgoaaGreatDoorZ33
import Derived.Test.YtahahafhendgoaaGreatDoorZ40
import Derived.Laws.MakeOwn
import Derived.Test.YtahahafhendgoaaGreatDoorRows
import Derived.Test.YtahahafhendgoaaGreatDoorZ06
import Derived.Test.YtahahafhendgoaaGreatDoorZ05
import Derived.Deep.Slices
import Derived.ChangeSlices
import Derived.Test.YtahahafhendgoaaGreatDoorZ10
import Derived.Test.YtahahafhendgoaaGreatDoorZ21
import Derived.Test.YtahahafhendgoaaGreatDoorShl
import Derived.Lib.LaidU8
import Derived.PinnedBridge
import Derived.Stop.LaidErr
import Derived.Shelf.Vars
import Derived.MakeChecks
import Derived.ProofKit
set_option maxHeartbeats 40000000
set_option linter.unusedVariables false
set_option linter.unusedSimpArgs false
namespace Go.Proofs.YtahahafhendgoaaGreatDoor
abbrev nmQ (c : CutR) : List UInt8:=bys c.name
theorem under_iff {a b : List UInt8} : underS a b = true ↔ codeR (partsB a) = 0 ∧ codeR (partsB b) = 0 ∧ (okL (partsB b)).length ≤ (okL (partsB a)).length ∧ (okL (partsB a)).drop ((okL (partsB a)).length - (okL (partsB b)).length) = okL (partsB b):=by
 unfold underS restB
 simp only [Bool.and_eq_true,decide_eq_true_eq]
 constructor
 ·rintro ⟨⟨h1,h2⟩,h3⟩
  refine ⟨h1,h2,?_⟩
  split at h3
  ·assumption
  ·simp at h3
 ·rintro ⟨h1,h2,h3⟩
  exact ⟨⟨h1,h2⟩,by rw [if_pos h3];rfl⟩
theorem under_self {a : List UInt8} (h : codeR (partsB a) = 0) : underS a a = true:=under_iff.2 ⟨h,h,Nat.le_refl _,by rw [Nat.sub_self];rfl⟩
theorem under_parent {a b : List UInt8} (ha : codeR (partsB a) = 0) (h : underS (parentS a).1 b = true) : underS a b = true:=by
 obtain ⟨h1,h2,h3,h4⟩:=under_iff.1 h
 rw [parent_parts ha] at h3 h4
 refine under_iff.2 ⟨ha,h2,?_⟩
 change (okL (partsB b)).length ≤ (okL (partsB a)).tail.length at h3
 change (okL (partsB a)).tail.drop ((okL (partsB a)).tail.length - (okL (partsB b)).length) = okL (partsB b) at h4
 generalize okL (partsB a) = x at *
 generalize okL (partsB b) = y at *
 cases x with
 | nil=>exact ⟨h3,h4⟩
 | cons p t=>
  simp only [List.tail_cons,List.length_cons] at *
  refine ⟨by omega,?_⟩
  rw [show t.length + 1 - y.length = (t.length - y.length) + 1 by omega,List.drop_succ_cons]
  exact h4
theorem under_parent_deep {a b : List UInt8} (ha : codeR (partsB a) = 0) (hne : okL (partsB a) ≠ []) (h : underS (parentS a).1 b = true) : depthS b < depthS a:=by
 have h3:=(under_iff.1 h).2.2.1
 rw [parent_parts ha] at h3
 change (okL (partsB b)).length ≤ (okL (partsB a)).tail.length at h3
 unfold depthS
 cases hx : okL (partsB a) with
 | nil=>exact absurd hx hne
 | cons p t=>rw [hx] at h3;simp at h3 ⊢;omega
def DeepIs (cs : List CutR) (nm : List UInt8) (i : Int) : Prop:=
 (i = -1 ∧ ∀ c ∈ cs,underS nm (nmQ c) = false) ∨ ∃ (k : Nat) (c : CutR),i = k ∧ cs[k]? = some c ∧ underS nm (nmQ c) = true ∧ ∀ c' ∈ cs,underS nm (nmQ c') = true → depthS (nmQ c') ≤ depthS (nmQ c)
theorem deepF_is (cs : List CutR) (nm : List UInt8) : DeepIs cs nm (deepF cs nm):=by
 have key : ∀ j,j ≤ cs.length → (deepGo nm 0 (-1,-1) (cs.take j) = (-1,-1) ∧ ∀ c ∈ cs.take j,underS nm (nmQ c) = false) ∨
  ∃ (k : Nat) (c : CutR),deepGo nm 0 (-1,-1) (cs.take j) = ((k : Int),depthS (nmQ c)) ∧ cs[k]? = some c ∧ underS nm (nmQ c) = true ∧ ∀ c' ∈ cs.take j,underS nm (nmQ c') = true → depthS (nmQ c') ≤ depthS (nmQ c):=by
  intro j
  induction j with
  | zero=>intro _;exact .inl ⟨rfl,by simp⟩
  | succ j ih=>
   intro hj
   have hc : cs[j]? = some cs[j]:=List.getElem?_eq_getElem (by omega)
   have ht : cs.take (j + 1) = cs.take j ++ [cs[j]]:=by rw [List.take_add_one,hc];rfl
   rw [deepGo_take hc,ht]
   generalize cs[j] = x at *
   have hd0 : 0 ≤ depthS (nmQ x):=by unfold depthS;omega
   rcases ih (by omega) with ⟨e,h⟩ | ⟨k,c,e,h1,h2,h3⟩
   ·rw [e]
    unfold deepStep
    cases hu : underS nm (nmQ x) with
    | false=>
     refine .inl ⟨by simp,fun c hc'=>?_⟩
     rcases List.mem_append.1 hc' with h4 | h4
     ·exact h c h4
     ·simp at h4;rw [h4];exact hu
    | true=>
     refine .inr ⟨j,x,by show (if (decide ((-1 : Int) < depthS (nmQ x)) && true) = true then _ else _) = _;rw [decide_eq_true (show (-1 : Int) < depthS (nmQ x) by omega)];rfl,hc,hu,fun c' hc' hu'=>?_⟩
     rcases List.mem_append.1 hc' with h4 | h4
     ·rw [h c' h4] at hu';cases hu'
     ·simp at h4;rw [h4];exact Int.le_refl _
   ·rw [e]
    unfold deepStep
    cases hu : underS nm (nmQ x) with
    | false=>
     refine .inr ⟨k,c,by simp,h1,h2,fun c' hc' hu'=>?_⟩
     rcases List.mem_append.1 hc' with h4 | h4
     ·exact h3 c' h4 hu'
     ·simp at h4;rw [h4,hu] at hu';cases hu'
    | true=>
     by_cases hd : depthS (nmQ c) < depthS (nmQ x)
     ·refine .inr ⟨j,x,by show (if (decide (depthS (nmQ c) < depthS (nmQ x)) && true) = true then _ else _) = _;rw [decide_eq_true hd];rfl,hc,hu,fun c' hc' hu'=>?_⟩
      rcases List.mem_append.1 hc' with h4 | h4
      ·have:=h3 c' h4 hu';omega
      ·simp at h4;rw [h4];exact Int.le_refl _
     ·refine .inr ⟨k,c,by show (if (decide (depthS (nmQ c) < depthS (nmQ x)) && true) = true then _ else _) = _;rw [decide_eq_false hd];rfl,h1,h2,fun c' hc' hu'=>?_⟩
      rcases List.mem_append.1 hc' with h4 | h4
      ·exact h3 c' h4 hu'
      ·simp at h4;rw [h4];omega
 have:=key cs.length (Nat.le_refl _)
 rw [List.take_length] at this
 unfold deepF
 rcases this with ⟨e,h⟩ | ⟨k,c,e,h⟩
 ·exact .inl ⟨by rw [e],h⟩
 ·exact .inr ⟨k,c,by rw [e],h⟩
theorem deep_some {cs : List CutR} {nm : List UInt8} {c : CutR} (hc : c ∈ cs) (hu : underS nm (nmQ c) = true) : ∃ (k : Nat) (d : CutR),deepF cs nm = k ∧ cs[k]? = some d ∧ underS nm (nmQ d) = true:=by
 rcases deepF_is cs nm with ⟨-,h⟩ | ⟨k,d,e,h1,h2,-⟩
 ·rw [h c hc] at hu;cases hu
 ·exact ⟨k,d,e,h1,h2⟩
structure RightOk (l : List Ent) (cs : List CutR) (n : Int) : Prop where
 srv : 1 ≤ n ∧ n ≤ 8
 few : cs.length ≤ 30
 cut : ∀ c ∈ cs,0 ≤ c.server ∧ c.server < n ∧ ∃ e ∈ l,e.name = c.name ∧ (aliasE e.atts).2 = false
 apart : Apart nmQ cs
 top : ∀ e ∈ l,(parentS (nmE e)).1 = [] → ∃ c ∈ cs,c.name = e.name
theorem RightOk.self {l : List Ent} {cs : List CutR} {n : Int} (h : RightOk l cs n) (hN : Named l) : ∀ c ∈ cs,selfN (nmQ c) = true:=fun c hc=>by
 obtain ⟨-,-,e,he,hn,-⟩:=h.cut c hc
 have:=hN.self e he
 unfold nmE at this
 rw [hn] at this
 exact this
theorem covers {l : List Ent} {cs : List CutR} {n : Int} (hok : OkOf l) (h : RightOk l cs n) : ∀ e ∈ l,∃ c ∈ cs,underS (nmE e) (nmQ c) = true:=by
 have hN:=ok_named hok
 have key : ∀ (m : Nat) (e : Ent),e ∈ l → (okL (partsB (nmE e))).length ≤ m → ∃ c ∈ cs,underS (nmE e) (nmQ c) = true:=by
  intro m
  induction m with
  | zero=>
   intro e he hm
   have hs:=hN.self e he
   obtain ⟨h1,h2,h3⟩:=self_parts hs
   have : okL (partsB (nmE e)) = []:=List.eq_nil_of_length_eq_zero (by omega)
   unfold normalS at h2
   rw [this] at h2
   exact absurd h2.symm h3
  | succ m ih=>
   intro e he hm
   obtain ⟨h1,h2,h3⟩:=self_parts (hN.self e he)
   by_cases hp : (parentS (nmE e)).1 = []
   ·obtain ⟨c,hc,hn⟩:=h.top e he hp
    refine ⟨c,hc,?_⟩
    have e2 : nmQ c = nmE e:=by unfold nmQ nmE;rw [hn]
    rw [e2]
    exact under_self h1
   ·have ha:=hok.2.2 e he
    unfold aboveE at ha
    rw [bys_str,if_neg hp] at ha
    cases hf : entOf l (str (parentS (bys e.name)).1) with
    | none=>rw [hf] at ha;simp at ha
    | some e'=>
     have hm' : e' ∈ l:=List.mem_of_find?_eq_some hf
     have hn' : nmE e' = (parentS (nmE e)).1:=by
      have:=List.find?_some hf
      simp only [decide_eq_true_eq] at this
      unfold nmE
      rw [this,bys_str]
     have hpp:=parent_parts h1
     have hlen : (okL (partsB (nmE e'))).length ≤ m:=by
      rw [hn',hpp]
      show (okL (partsB (nmE e))).tail.length ≤ m
      rw [List.length_tail]
      omega
     obtain ⟨c,hc,hu⟩:=ih e' hm' hlen
     refine ⟨c,hc,under_parent h1 ?_⟩
     rw [← hn']
     exact hu
 exact fun e he=>key _ e he (Nat.le_refl _)
theorem depth_pos {s : List UInt8} (h : selfN s = true) : okL (partsB s) ≠ []:=fun e=>by
 obtain ⟨h1,h2,h3⟩:=self_parts h
 unfold normalS at h2
 rw [e] at h2
 exact h3 h2.symm
def ctxE (l : List Ent) (cs : List CutR) (i : Nat) : List Ent:=l.filter fun e=>decide (deepF cs (nmE e) = (i : Int))
def upC (cs : List CutR) (c : CutR) : Int:=deepF cs (parentS (nmQ c)).1
def ctxS (cs : List CutR) (i : Nat) : List CutR:=cs.filter fun c=>decide (upC cs c = (i : Int))
def topS (cs : List CutR) : List CutR:=cs.filter fun c=>decide (upC cs c < 0)
def nmAt (cs : List CutR) (i : Nat) : ByteArray:=((cs[i]?).map (·.name)).getD ByteArray.empty
def ctxAt (l : List Ent) (cs : List CutR) (i : Nat) : Cxt:=⟨nmAt cs i,ctxE l cs i,ctxS cs i⟩
def srvF (l : List Ent) (cs : List CutR) (s : Nat) : List Cxt:=((List.range cs.length).filter fun i=>decide (((cs[i]?).map (·.server)).getD (-1) = (s : Int))).map (ctxAt l cs)
def splitF' (l : List Ent) (cs : List CutR) (n : Nat) : List (List Cxt):=(List.range n).map (srvF l cs)
end Go.Proofs.YtahahafhendgoaaGreatDoor
namespace Go.Proofs.YtahahafhendgoaaGreatDoor
open Go.RowKit
set_option maxRecDepth 100000
theorem cut_one {S : Nat → Prop} {w : World} {us : List (List Value)} {l : List CutR} (hl : us.length = l.length) (h : ∀ (i : Nat) u x,us[i]? = some u → l[i]? = some x → Elem.cut.R S w u x) : us = l.map CutR.cells ∧ ∀ c ∈ us.flatten,c.oneCell' = true:=by
 have e : us = l.map CutR.cells:=by
  apply List.ext_getElem?
  intro i
  rw [List.getElem?_map]
  by_cases hi : i < l.length
  ·rw [List.getElem?_eq_getElem hi,List.getElem?_eq_getElem (show i < us.length by omega)]
   have:=h i _ _ (List.getElem?_eq_getElem (show i < us.length by omega)) (List.getElem?_eq_getElem hi)
   simp only [Elem.cut] at this
   rw [this]
   rfl
  ·rw [List.getElem?_eq_none (by omega),List.getElem?_eq_none (by omega)]
   rfl
 refine ⟨e,?_⟩
 subst e
 intro c hc
 obtain ⟨u,hu,hcu⟩:=List.mem_flatten.1 hc
 obtain ⟨x,-,rfl⟩:=List.mem_map.1 hu
 simp only [CutR.cells,List.mem_cons,List.not_mem_nil,or_false] at hcu
 rcases hcu with rfl | rfl <;> rfl
theorem cutclone_any {S : Nat → Prop} {A : Option Addr} {n c : Nat} {l : List CutR} {w : World} (h : Row Elem.cut S w A n c l) (hm : l.length ≤ 4000000) :
 Calls Tryz.prog 31 #[.slice A n c] w fun e w'=>∃ v,e = .returned v ∧ GrowM Elem.cut S 41 none w w' v l:=by
 have hl:=h.len
 rcases A with _ | a
 ·have hx : l = []:=by
   rcases Nat.eq_zero_or_pos n with h0 | h0
   ·exact h.nil_iff.1 h0
   ·obtain ⟨b,o,v,x,e,_⟩:=h.at_ h0;cases e
  subst hx
  have hz:=fun W=>Lib.run_eql_slice_nil (P:=Tryz.prog) W 27 41 none n c 0 0 Tryz.underlying27
  clear hl h
  go_enter Tryz.func31,Tryz.ntmps31
  go_wp2
  go_ret
  exact ⟨_,rfl,GrowM.nil (Ext.refl w) (fun g hg=>by cases hg)⟩
 ·have hz:=fun W=>Lib.run_eql_slice_nil (P:=Tryz.prog) W 27 41 (some a) n c 0 0 Tryz.underlying27
  obtain ⟨us,u1,u2,u3⟩:=h.cut_open
  have HU1:=hid u1
  have HC:=hid (u2.below (Ext.alloc w (.cells #[] 41)))
  have HO:=hid (cut_one u1 u3).2
  have HG:=hid (GrowM.lit0 (E:=Elem.cut) (S:=S) (T:=41) w)
  have HE : Hid (∀ (i : Nat) u y,us[i]? = some u → l[i]? = some y → Elem.cut.R (outer S (.slice (some ⟨w.heap.size,0,none⟩) 0 0) none) (w.alloc (.cells #[] 41)) u y):=fun i u y hi hy=>HG.out.old (fun _ _ hb=>hb) (u3 i u y hi hy)
  have HL:=hid hl
  have HN : Hid (n ≤ 4000000):=by show _ ≤ _;omega
  clear hl h hm u1 u2 u3
  go_enter Tryz.func31,Tryz.ntmps31
  go_wp2_with (at_builtin;refine append_m Tryz.underlying27 infoCut rfl (by decide) rfl _ _ rfl _ _ rfl HG.out us l HU1.out HE.out HO.out rfl HL.out HC.out (by have:=HN.out;simp only [List.length_nil];omega) ?_;intro v' w1 hg1 _ _;have HG1:=hid hg1;clear hg1)
  go_ret
  exact ⟨_,rfl,by have:=HG1.out;rwa [List.nil_append] at this⟩
theorem cmpC_any (x y : CutC) (w : World) (hG : Gl w) : Calls Tryz.prog 33 #[.agg #[x.c0,x.c1],.agg #[y.c0,y.c1]] w fun e w'=>e = .returned (.int .i64 (compareS (bys x.name) (bys y.name))) ∧ Ext w w':=by
 have HC : ∀ w',Ext w w' → Calls Tryz.prog 34 #[.string x.name,.string y.name] w' fun e w''=>e = .returned (.int .i64 (compareS (bys x.name) (bys y.name))) ∧ Ext w' w'':=fun w' hx=>dncompare_any x.name y.name w' (hG.ext hx)
 clear hG
 obtain ⟨xn,xs⟩:=x
 obtain ⟨yn,ys⟩:=y
 simp only [CutC.c0,CutC.c1] at *
 generalize compareS (bys xn) (bys yn) = k at *
 go_enter Tryz.func33,Tryz.ntmps33
 go_wp2_with (go_at_call 34;(with_reducible refine (HC _ ((Ext.alloc _ _).trans (Ext.alloc _ _))).mono ?_);rintro e w1 ⟨rfl,hx1⟩;have HX1:=hid (((Ext.alloc _ _).trans (Ext.alloc _ _)).trans hx1);clear hx1)
 go_ret
 exact ⟨rfl,HX1.out⟩
def toC (c : CutR) : CutC:=⟨c.name,c.server⟩
def ofC (c : CutC) : CutR:=⟨c.name,c.srv⟩
theorem cells_toC (l : List CutR) : (l.map CutR.cells).flatten = ((l.map toC).map (two CutC.c0 CutC.c1)).flatten:=by rw [List.map_map];rfl
theorem cells_ofC (l : List CutC) : (l.map (two CutC.c0 CutC.c1)).flatten = ((l.map ofC).map CutR.cells).flatten:=by rw [List.map_map];rfl
theorem GrowM.toV {S : Nat → Prop} {w wr : World} {v : Value} {l : List CutR} (h : GrowM Elem.cut S 41 none w wr v l) : GVC w wr v (l.map toC):=by
 obtain ⟨⟨vss,h1,h2,h3⟩,h4,-⟩:=h
 have e:=(cut_one h1 h3).1
 refine ⟨?_,h4⟩
 rw [e,cells_toC] at h2
 rw [List.length_map]
 exact h2
theorem GVC.rowC {w wr : World} {v : Value} {l : List CutC} (h : GVC w wr v l) : ∃ A c,v = .slice A l.length c ∧ Row Elem.cut (fun b=>w.heap.size ≤ b) wr A l.length c (l.map ofC):=by
 have ho:=h.own
 rw [cells_ofC] at ho
 obtain ⟨A,c,rfl⟩ : ∃ A c,v = .slice A l.length c:=by
  rcases ho.2 with ⟨e,h0⟩ | ⟨g,cap,cur,e,_⟩
  ·exact ⟨none,0,by rw [h0,e]⟩
  ·exact ⟨_,_,e⟩
 have hl : (l.map ofC).length = l.length:=List.length_map _
 refine ⟨A,c,rfl,?_⟩
 rw [← hl] at ho ⊢
 exact own_rows ho rfl (List.length_map _) (fun g hg=>(ho.lt g hg).1) fun i u x hi hx=>by
  rw [List.getElem?_map,hx] at hi
  injection hi with hi
  exact hi.symm
theorem sorted_any {S : Nat → Prop} {A : Option Addr} {n c : Nat} {l : List CutR} {w : World} (h : Row Elem.cut S w A n c l) (hG : Gl w) (hm : l.length ≤ 4000000) (hs : ∀ x ∈ l,selfN (nmQ x) = true) (ha : Apart nmQ l) :
 Calls Tryz.prog 15 #[.slice A n c] w fun e w'=>∃ A' n' c',e = .returned (.slice A' n' c') ∧ Row Elem.cut (fun b=>w.heap.size ≤ b) w' A' n' c' (sortN nmQ l) ∧ Ext w w':=by
 have HCL:=cutclone_any h hm
 have HG:=hid hG
 have HS : Hid (∀ l',StOk (ltKC fun x y=>compareS (bys x.name) (bys y.name)) (l.map toC) l' → l'.map ofC = sortN nmQ l):=fun l' hl'=>by
  have h1 : ∀ x ∈ l.map toC,selfN (bys x.name) = true:=fun x hx=>by obtain ⟨y,hy,rfl⟩:=List.mem_map.1 hx;exact hs y hy
  have h2 : Apart (fun x : CutC=>bys x.name) (l.map toC):=by show List.Pairwise _ _;rw [List.pairwise_map];exact ha
  have e1 : l' = sortN (fun x : CutC=>bys x.name) (l.map toC):=hl'.sortN (f:=fun x : CutC=>bys x.name) h1 h2
  obtain ⟨p,q⟩:=sortN_ok h1 h2
  rw [← e1] at p q
  refine sortN_same hs ha ?_ ?_
  ·have:=p.map ofC
   rw [List.map_map] at this
   have e2 : l.map (ofC ∘ toC) = l:=by rw [show (ofC ∘ toC) = id from rfl,List.map_id]
   rwa [e2] at this
  ·show List.Pairwise _ _
   rw [List.pairwise_map]
   exact q
 have HNIL : Hid (l = [] → sortN nmQ l = []):=fun e=>by rw [e];rfl
 have HLM:=hid hm
 clear h hG hs ha hm
 go_enter Tryz.func15,Tryz.ntmps15
 go_wp2_with (go_at_call 31;(with_reducible refine HCL.mono ?_);rintro e w1 ⟨v1,rfl,hg1⟩;have HG1:=hid hg1;clear hg1)
 rcases HG1.out.forms with ⟨rfl,hz⟩ | ⟨g9,n9,c9,rfl,hn9⟩
 ·have HL:=hid (HNIL.out hz)
  have HX1:=hid HG1.out.ext
  clear hz
  go_wp2_with (go_at_call 32;(with_reducible refine (sortC_nil _).mono ?_);rintro e w2 ⟨rfl,hx2⟩;have HX2:=hid (HX1.out.trans hx2);clear hx2)
  go_ret
  exact ⟨none,0,0,rfl,by rw [HL.out];exact Row.nil _ _ _,HX2.out⟩
 ·have HST:=sortC_any (K:=fun x y=>compareS (bys x.name) (bys y.name)) (P:=fun _=>True) (w0:=w) (w:=w1) (fun wr hx x y _ _=>cmpC_any x y wr (HG.out.ext hx)) HG1.out.toV (fun _ _=>trivial) (by have:=HLM.out;omega)
  unfold RowSaysC at HST
  clear hn9
  go_wp2_with (go_at_call 32;(with_reducible refine HST.mono ?_);rintro e w2 ⟨rfl,⟨l',hg,hst⟩,-⟩;have HR:=hid hg;have HL:=hid (HS.out l' hst);clear hg hst)
  go_ret
  obtain ⟨A6,c6,hv,hr⟩:=GVC.rowC HR.out
  rw [HL.out] at hr
  rw [hv]
  exact ⟨A6,_,c6,rfl,hr,HR.out.ext⟩
end Go.Proofs.YtahahafhendgoaaGreatDoor
namespace Go.Proofs.YtahahafhendgoaaGreatDoor
open Go.RowKit
open Go.Maps
set_option maxRecDepth 100000
def seenB (ls : List ByteArray) (x : ByteArray) : Bool:=ls.any (fun t=>decide (t = x))
theorem MSet.ext {w w' : World} {B n : Nat} {l : List ByteArray} (h : MSet w B n l) (hx : Ext w w') : MSet w' B n l:=h.kept (grew_ext hx none) (by simp)
theorem MSet.look_run {w : World} {B n : Nat} {l : List ByteArray} (h : MSet w B n l) (s : ByteArray) (hs : s.size ≤ maxLen) : (Instr.lookup 79 (.map (some B)) (.string s) false).run Tryz.prog w = .ok (.bool (l.any (fun t=>decide (t = s)))) w:=by
 obtain ⟨D,h1,h2,h3⟩:=h
 have hz : (zeroValue 4).run Tryz.prog w = .ok (.bool false) w:=by kernel_rfl
 obtain ⟨v,ps,hrun,hv⟩:=h1.lookup mlaw Tryz.underlying79 hz (plainElem_bool Tryz.underlying4 false) (key:=.string s) (kl:=.string s.data.toList) (WideMaps.keyOf_string_mk Tryz.underlying9 hs)
 rw [h3 s hs] at hv
 obtain ⟨b,rfl,hb⟩:=plainElem_bool_inv Tryz.underlying4 hv
 simp at hb
 obtain ⟨hb,-⟩:=hb
 subst hb
 simpa using hrun
theorem right1_any (x : ByteArray) (g1 B m : Nat) (ls : List ByteArray) (w : World) (hs : x.size ≤ maxLen) (hc : w.cell? ⟨g1,0,none⟩ = some (.map (some B))) (hm : MSet w B m ls) :
 Calls Tryz.prog 30 #[.string x,.pointer (some ⟨g1,0,none⟩)] w fun e w'=>e = .returned (.bool (!seenB ls x)) ∧ Ext w w':=by
 have HM:=hid hm
 have HSZ:=hid hs
 have HD : Hid (ls.any (fun t=>decide (t = x)) = seenB ls x):=rfl
 clear hm hs
 generalize seenB ls x = b at *
 go_enter Tryz.func30,Tryz.ntmps30
 go_wp2_with (at_lookup;refine mset_look rfl _ _ rfl HM.out rfl _ HSZ.out rfl ?_;rw [HD.out])
 go_ret
 exact ⟨rfl,Ext.refl _⟩
theorem indexseen_any {S : Nat → Prop} {A : Option Addr} {n c : Nat} {l : List ByteArray} {w : World} (h : Row Elem.str S w A n c l) (g1 B m : Nat) (ls : List ByteArray) (hz : ∀ x ∈ l,x.size ≤ maxLen) (hc1 : w.cell? ⟨g1,0,none⟩ = some (.map (some B))) (hm : MSet w B m ls) :
 Calls Tryz.prog 55 #[.slice A n c,.func (.func 30) #[] #[.pointer (some ⟨g1,0,none⟩)]] w fun e w'=>
  ∃ r : Int,e = .returned (.int .i64 r) ∧ Idx (fun x=>!seenB ls x) l r ∧ Ext w w':=by
 have hl:=hid h.len
 have hnl : n ≤ 9223372036854775807:=by have:=h.cap;have:=h.most;simp only [maxLen] at this;omega
 have HC2 : ∀ x wr,x ∈ l → Ext w wr → Calls Tryz.prog 30 #[.string x,.pointer (some ⟨g1,0,none⟩)] wr fun e w'=>e = .returned (.bool (!seenB ls x)) ∧ Ext wr w':=
  fun x wr hx0 hx=>right1_any x g1 B m ls wr (hz x hx0) (cell_later hc1 _ hx) (hm.ext hx)
 obtain ⟨P,hP⟩ : ∃ P : ByteArray → Bool,P = fun x=>!seenB ls x:=⟨_,rfl⟩
 have HC3 : ∀ x wr,x ∈ l → Ext w wr → Calls Tryz.prog 30 #[.string x,.pointer (some ⟨g1,0,none⟩)] wr fun e w'=>e = .returned (.bool (P x)) ∧ Ext wr w':=fun x wr hx0 hx=>by rw [hP];exact HC2 x wr hx0 hx
 rw [← hP]
 clear hc1 hm hz hP HC2
 go_enter Tryz.func55,Tryz.ntmps55
 go_wp2
 go_loopw [8] (fun i wr=>∃ j : Nat,j ≤ n ∧ i = .int .i64 j ∧ Hid ((l.take j).any P = false) ∧ Hid (Ext w wr)) (fun i _=>n - (intOf i).toNat)
 case atStart=>exact ⟨0,by omega,rfl,by simp [Hid],Ext.refl w⟩
 case round=>
  obtain ⟨j,hj,rfl,Htk,hx⟩:=hrel
  by_cases hlt : j < n
  ·obtain ⟨b1,o1,rfl,c1⟩:=(h.ext hx.out).str_cell (by omega)
   have e1:=c1 j hlt
   clear c1
   have g1 : l[j]? = some (l[j]?.getD ByteArray.empty):=by have:=hl.out;rw [List.getElem?_eq_getElem (by omega)];simp
   have Hg:=hid g1
   have HMM:=hid (List.mem_of_getElem? g1)
   clear g1
   generalize l[j]?.getD ByteArray.empty = x1 at *
   cases hp : P x1
   ·have Hp:=hid hp
    clear hp
    go_wp2_with (go_at_call 30;(with_reducible refine (HC3 _ _ HMM.out hx.out).mono ?_);rintro e w1 ⟨he,hx1⟩;rw [Hp.out] at he;subst he;have HX1:=hid hx1;clear hx1)
    exact ⟨⟨j + 1,by omega,by go_num,any_take' Htk.out Hg.out Hp.out,hx.out.trans HX1.out⟩,by simp [intOf];omega⟩
   ·have Hp:=hid hp
    clear hp
    go_wp2_with (go_at_call 30;(with_reducible refine (HC3 _ _ HMM.out hx.out).mono ?_);rintro e w1 ⟨he,hx1⟩;rw [Hp.out] at he;subst he;have HX1:=hid hx1;clear hx1)
    go_ret
    exact ⟨_,rfl,.inr ⟨j,rfl,Htk.out,_,Hg.out,Hp.out⟩,hx.out.trans HX1.out⟩
  ·obtain rfl : j = n:=by omega
   go_wp2
   go_ret
   have h9:=Htk.out
   rw [List.take_of_length_le (Nat.le_of_eq hl.out.symm)] at h9
   exact ⟨_,rfl,.inl ⟨rfl,h9⟩,hx.out⟩
theorem containsseen_any {S : Nat → Prop} {A : Option Addr} {n c : Nat} {l : List ByteArray} {w : World} (h : Row Elem.str S w A n c l) (g1 B m : Nat) (ls : List ByteArray) (hz : ∀ x ∈ l,x.size ≤ maxLen) (hc1 : w.cell? ⟨g1,0,none⟩ = some (.map (some B))) (hm : MSet w B m ls) :
 Calls Tryz.prog 28 #[.slice A n c,.func (.func 30) #[] #[.pointer (some ⟨g1,0,none⟩)]] w fun e w'=>e = .returned (.bool (l.any fun x=>!seenB ls x)) ∧ Ext w w':=by
 have HI:=indexseen_any h g1 B m ls hz hc1 hm
 have HD : Hid (∀ r,Idx (fun x=>!seenB ls x) l r → (decide (0 ≤ r)) = l.any fun x=>!seenB ls x):=fun r hr=>hr.has
 clear h hz hc1 hm
 generalize (l.any fun x=>!seenB ls x) = q at *
 generalize (fun x=>!seenB ls x) = P at *
 go_enter Tryz.func28,Tryz.ntmps28
 go_wp2_with (go_at_call 55;(with_reducible refine HI.mono ?_);rintro e w1 ⟨r1,rfl,hr,hx1⟩;have HRR:=hid (HD.out r1 hr);have HX1:=hid hx1;clear hr hx1)
 go_ret
 exact ⟨by rw [← HRR.out];rfl,HX1.out⟩
def goodC (l : List Ent) (n : Int) (c : CutR) : Prop:=0 ≤ c.server ∧ c.server < n ∧ ∃ e ∈ l,e.name = c.name ∧ (aliasE e.atts).2 = false
theorem good_iff {l : List Ent} (hN : Named l) (n : Int) (c : CutR) : goodC l n c ↔ (getO l (bys c.name)).isSome = true ∧ (aliasE ((getO l (bys c.name)).getD noEnt).atts).2 = false ∧ ((getO l (bys c.name)).getD noEnt).name = c.name ∧ 0 ≤ c.server ∧ c.server < n:=by
 have hm : ∀ {p : ByteArray} {x : Ent},entOf l p = some x → x ∈ l ∧ x.name = p:=fun h=>⟨List.mem_of_find?_eq_some h,by have:=List.find?_some h;simpa using this⟩
 constructor
 ·rintro ⟨h1,h2,e,he,hn,ha⟩
  have hs:=hN.self e he
  obtain ⟨c1,c2,c3⟩:=self_parts hs
  unfold nmE at c1 c2
  rw [hn] at c1 c2
  have : getO l (bys c.name) = some e:=by
   unfold getO
   rw [if_pos c1,c2,str_bys]
   cases hf : entOf l c.name with
   | none=>
    unfold entOf at hf
    rw [List.find?_eq_none] at hf
    exact absurd (by simpa using hn) (hf e he)
   | some y=>
    obtain ⟨a,b⟩:=hm hf
    rw [hN.apart.one a he (by show bys _ = bys _;rw [b,hn])]
  rw [this]
  exact ⟨rfl,ha,hn,h1,h2⟩
 ·rintro ⟨h1,h2,h3,h4,h5⟩
  cases ho : getO l (bys c.name) with
  | none=>rw [ho] at h1;cases h1
  | some e=>
   rw [ho] at h2 h3
   refine ⟨h4,h5,e,?_,h3,h2⟩
   unfold getO at ho
   split at ho
   ·exact (hm ho).1
   ·cases ho
theorem kids_root (l : List Ent) : kidsR (sortN nmE l) [] = ((sortN nmE l).filter fun e=>decide ((parentS (nmE e)).1 = [])).map (·.name):=by
 have h : codeR (partsB []) = 0:=rfl
 have h2 : normalS [] = []:=rfl
 unfold kidsR
 rw [if_pos h]
 congr 2
theorem right_end {l : List Ent} {cs : List CutR} {sv : Int} (hN : Named l) (h1 : 1 ≤ sv ∧ sv ≤ 8) (h2 : cs.length ≤ 30) (h3 : ∀ c ∈ cs,goodC l sv c) (h4 : Apart nmQ cs) :
 ((kidsR (sortN nmE l) []).any fun x=>!seenB (cs.map (·.name)) x) = false ↔ RightOk l cs sv:=by
 have hp:=(sortN_ok hN.self hN.apart).1
 rw [kids_root]
 constructor
 ·intro h
  refine ⟨h1,h2,h3,h4,fun e he hpe=>?_⟩
  rw [List.any_eq_false] at h
  have:=h e.name (List.mem_map.2 ⟨e,List.mem_filter.2 ⟨hp.mem_iff.2 he,by rw [decide_eq_true hpe]⟩,rfl⟩)
  simp only [Bool.not_eq_true,Bool.not_eq_false'] at this
  unfold seenB at this
  rw [List.any_eq_true] at this
  obtain ⟨t,ht,hte⟩:=this
  obtain ⟨c,hc,rfl⟩:=List.mem_map.1 ht
  exact ⟨c,hc,by simpa using hte⟩
 ·intro h
  rw [List.any_eq_false]
  intro x hx
  obtain ⟨e,he,rfl⟩:=List.mem_map.1 hx
  obtain ⟨he1,he2⟩:=List.mem_filter.1 he
  obtain ⟨c,hc,hn⟩:=h.top e (hp.mem_iff.1 he1) (by simpa using he2)
  have : seenB (cs.map (·.name)) e.name = true:=by
   unfold seenB
   rw [List.any_eq_true]
   exact ⟨c.name,List.mem_map.2 ⟨c,hc,rfl⟩,by simpa using hn⟩
  rw [this]
  simp
theorem apart_snoc {cs : List CutR} {j : Nat} {c : CutR} (h : Apart nmQ (cs.take j)) (hc : cs[j]? = some c) (hn : seenB ((cs.take j).map (·.name)) c.name = false) : Apart nmQ (cs.take (j + 1)):=by
 rw [List.take_add_one,hc]
 show List.Pairwise _ _
 rw [Option.toList_some,List.pairwise_append]
 refine ⟨h,List.pairwise_singleton _ _,fun a ha b hb=>?_⟩
 simp at hb
 subst hb
 unfold seenB at hn
 rw [List.any_eq_false] at hn
 have:=hn a.name (List.mem_map.2 ⟨a,ha,rfl⟩)
 intro e
 apply this
 simp only [decide_eq_true_eq]
 rw [← str_bys a.name,← str_bys b.name]
 exact congrArg str e
theorem apart_no {cs : List CutR} {j : Nat} {c : CutR} (hc : cs[j]? = some c) (hn : seenB ((cs.take j).map (·.name)) c.name = true) : ¬ Apart nmQ cs:=by
 intro h
 unfold seenB at hn
 rw [List.any_eq_true] at hn
 obtain ⟨t,ht,hte⟩:=hn
 obtain ⟨a,ha,rfl⟩:=List.mem_map.1 ht
 obtain ⟨i,hi⟩:=List.getElem?_of_mem ha
 have hij : i < j:=by
  have:=(List.getElem?_eq_some_iff.1 hi).1
  rw [List.length_take] at this
  omega
 rw [List.getElem?_take_of_lt hij] at hi
 have hil:=(List.getElem?_eq_some_iff.1 hi).1
 have hjl:=(List.getElem?_eq_some_iff.1 hc).1
 have:=List.pairwise_iff_getElem.1 h i j hil hjl hij
 rw [List.getElem?_eq_getElem hil] at hi
 rw [List.getElem?_eq_getElem hjl] at hc
 injection hi with hi
 injection hc with hc
 rw [hi,hc] at this
 exact this (by show bys _ = bys _;rw [of_decide_eq_true hte])
def RightSays (w : World) (l : List Ent) (cs : List CutR) (sv : Int) (e : Ending) (w' : World) : Prop:=∃ b : Bool,e = .returned (.bool b) ∧ (b = true ↔ RightOk l cs sv) ∧ Ext w w'
theorem RightSays.no {w w' : World} {l : List Ent} {cs : List CutR} {sv : Int} (h : ¬ RightOk l cs sv) (hx : Ext w w') : RightSays w l cs sv (.returned (.bool false)) w':=⟨false,rfl,by simp [h],hx⟩
theorem right_any {S : Nat → Prop} {A : Option Addr} {n c : Nat} {cs : List CutR} {w : World} {g Bt : Nat} {es : Array MapEntry} {clock : Nat} {l : List Ent} (ht : TreeAt (fun b=>b ≠ Bt) w g Bt es clock l) (h : Row Elem.cut S w A n c cs) (sv : Int) (hG : Gu w) (hf : ∀ e ∈ l,EntFits e) (hN : Named l) (hll : l.length ≤ 1000000) (hs1 : -9223372036854775808 ≤ sv) (hs2 : sv ≤ 9223372036854775807) :
 Calls Tryz.prog 14 #[.pointer (some ⟨g,0,none⟩),.slice A n c,.int .i64 sv] w (RightSays w l cs sv):=by
 have HL:=hid h.len
 have HR:=hid h
 have HT:=hid ht
 have HG:=hid hG
 have HF:=hid hf
 have HN:=hid hN
 have HLL:=hid hll
 have hnl : n ≤ 9223372036854775807:=by have:=h.cap;have:=h.most;simp only [maxLen] at this;omega
 clear h ht hG hf hN hll
 show Calls _ _ _ _ (fun e w'=>RightSays w l cs sv e w')
 by_cases h1 : sv < 1
 ·have HE : Hid (¬ RightOk l cs sv):=fun h=>by have:=h.srv;omega
  go_enter Tryz.func14,Tryz.ntmps14
  go_wp2
  go_ret
  exact RightSays.no HE.out (Ext.refl _)
 by_cases h2 : 8 < sv
 ·have HE : Hid (¬ RightOk l cs sv):=fun h=>by have:=h.srv;omega
  go_enter Tryz.func14,Tryz.ntmps14
  go_wp2
  go_ret
  exact RightSays.no HE.out (Ext.refl _)
 by_cases h3 : 30 < n
 ·have HE : Hid (¬ RightOk l cs sv):=fun h=>by have:=h.few;have:=HL.out;omega
  have h3' : (30 : Int) < (n : Int):=by omega
  clear h3
  go_enter Tryz.func14,Tryz.ntmps14
  go_wp2
  go_ret
  exact RightSays.no HE.out (Ext.refl _)
 have h3' : ¬ (30 : Int) < (n : Int):=by omega
 have HS18 : Hid (1 ≤ sv ∧ sv ≤ 8):=⟨by omega,by omega⟩
 have hn30 : n ≤ 30:=by omega
 have HCF : Hid (cs.length ≤ 30):=by show _ ≤ _;rw [← HL.out];exact hn30
 have HMK:=hid (MSet.made w)
 have HBS0:=hid (Bx.make (Ext.alloc w (.map #[] 0)) #[.map (some w.heap.size)] 79)
 rw [show (w.alloc (.map #[] 0)).heap.size = w.heap.size + 1 by simp] at HBS0
 have HMS0:=hid (HMK.out.ext (Ext.alloc (w.alloc (.map #[] 0)) (.cells #[.map (some w.heap.size)] 79)))
 clear h3
 go_enter Tryz.func14,Tryz.ntmps14
 have hmm:=@run_makeMap Tryz.prog
 go_wp2
 clear h1 h2 h3' hmm
 go_loopw [28] (fun i wr=>∃ j : Nat,j ≤ n ∧ i = .int .i64 j ∧ Hid (Bx w wr (w.heap.size + 1) 79 #[.map (some w.heap.size)]) ∧ Hid (MSet wr w.heap.size j ((cs.take j).map (·.name))) ∧ Hid ((∀ c ∈ cs.take j,goodC l sv c) ∧ Apart nmQ (cs.take j))) (fun i _=>n - (intOf i).toNat)
 case atStart=>exact ⟨0,by omega,rfl,HBS0.out,HMS0.out,by simp,List.Pairwise.nil⟩
 case round=>
  obtain ⟨j,hj,rfl,HBS,HMS,HGD⟩:=hrel
  have hlts:=HBS.out.lt
  by_cases hlt : j < n
  ·obtain ⟨b1,o1,v1,x1,rfl,g1,-,r1,q1⟩:=(HR.out.ext HBS.out.ext).at_ hlt
   obtain ⟨nm1,sv1⟩:=x1
   cases r1
   have e10:=q1 0 _ rfl
   have e11:=q1 1 _ rfl
   simp only [Elem.cut,CutR.cells,Nat.add_zero] at e10 e11
   have hlt' : (j : Int) < (n : Int):=by omega
   have HGJ:=hid g1
   have HMEM : Hid ((⟨nm1,sv1⟩ : CutR) ∈ cs):=List.mem_of_getElem? g1
   have HBC:=hid (Bx.make (Ext.refl wr) #[.string nm1,.int .i64 sv1] 41)
   have HTG : ∀ w',Ext wr w' → Calls Tryz.prog 26 #[.pointer (some ⟨g,0,none⟩),.string nm1] w' (GetSays w' (getO l (bys nm1))):=fun w' hx=>tget_any (HT.out.ext (HBS.out.ext.trans hx)) nm1 (HG.out.gl.ext (HBS.out.ext.trans hx)) HF.out
   unfold GetSays at HTG
   have HGI:=hid (good_iff HN.out sv (⟨nm1,sv1⟩ : CutR))
   have hov : ∀ a ∈ ((getO l (bys nm1)).getD noEnt).atts,a.vals.length ≤ 8796093022208:=by
    cases ho : getO l (bys nm1) with
    | none=>intro a ha;simp [noEnt] at ha
    | some e=>
     have hm : e ∈ l:=by
      unfold getO at ho
      split at ho
      ·exact List.mem_of_find?_eq_some ho
      ·cases ho
     exact (HF.out e hm).vals
   have HSZ : Hid (((getO l (bys nm1)).getD noEnt).name = nm1 → (getO l (bys nm1)).isSome = true → nm1.size ≤ maxLen):=fun h k=>by
    cases ho : getO l (bys nm1) with
    | none=>rw [ho] at k;cases k
    | some e=>
     rw [ho] at h
     have hm : e ∈ l:=by
      unfold getO at ho
      split at ho
      ·exact List.mem_of_find?_eq_some ho
      ·cases ho
     have:=(HF.out e hm).name
     rw [← h]
     simp only [Option.getD_some,maxLen]
     omega
   simp only at HGI
   generalize (getO l (bys nm1)).isSome = ob at *
   generalize (getO l (bys nm1)).getD noEnt = ox at *
   have HAL : ∀ A' n' c' w',Ext wr w' → Row Elem.att (fun _=>True) w' A' n' c' ox.atts → Calls Tryz.prog 27 #[.agg #[.string ox.name,.slice A' n' c']] w' (AliasSays w' ox.atts):=fun A' n' c' w' hx hr=>alias_any hr ox.name (HG.out.ext (HBS.out.ext.trans hx)) hov
   unfold AliasSays at HAL
   have HNG : Hid (¬ goodC l sv ⟨nm1,sv1⟩ → ¬ RightOk l cs sv):=fun h k=>h (k.cut _ HMEM.out)
   generalize (aliasE ox.atts).2 = al at *
   generalize str (aliasE ox.atts).1 = at1 at *
   clear hov q1 g1
   cases ob with
   | false=>
    have HE : Hid (¬ RightOk l cs sv):=HNG.out (fun h=>by have:=(HGI.out.1 h).1;cases this)
    go_wp2_with ((first | (go_at_call 26;(with_reducible refine (HTG _ HBC.out.ext).mono ?_);rintro e w4 ⟨A4,n4,c4,rfl,hr4,hx4⟩;have HX4:=hid (hx4.trans (Ext.alloc w4 (.cells #[.string ox.name,.slice A4 n4 c4] 48)));have HE4:=hid (Bx.make (Ext.refl w4) #[.string ox.name,.slice A4 n4 c4] 48);have HR4:=hid (hr4.ext (Ext.alloc w4 (.cells #[.string ox.name,.slice A4 n4 c4] 48)));have HC4:=hid (HBC.out.later HX4.out);have q0:=HE4.out.cell (i:=0) rfl;have q1:=HE4.out.cell (i:=1) rfl;clear hr4 hx4) | (go_at_call 27;(with_reducible refine (HAL _ _ _ _ HC4.out.ext HR4.out).mono ?_);rintro e w5 ⟨rfl,hx5⟩;have HX5:=hid (HC4.out.ext.trans hx5);have HC5:=hid (HC4.out.later hx5);have HE5:=hid (HE4.out.later hx5);have p0:=HC5.out.cell (i:=0) rfl;have p1:=HC5.out.cell (i:=1) rfl;have r0:=HE5.out.cell (i:=0) rfl;have r1:=HE5.out.cell (i:=1) rfl;have s0:=(HBS.out.later HX5.out).cell (i:=0) rfl;have HM5:=hid (HMS.out.ext HX5.out);(try have hlk:=HLK.out _ HM5.out);clear hx5) ))
    go_ret
    exact RightSays.no HE.out (HBS.out.ext.trans HX5.out)
   | true=>
    cases al with
    | true=>
     have HE : Hid (¬ RightOk l cs sv):=HNG.out (fun h=>by have:=(HGI.out.1 h).2.1;cases this)
     go_wp2_with ((first | (go_at_call 26;(with_reducible refine (HTG _ HBC.out.ext).mono ?_);rintro e w4 ⟨A4,n4,c4,rfl,hr4,hx4⟩;have HX4:=hid (hx4.trans (Ext.alloc w4 (.cells #[.string ox.name,.slice A4 n4 c4] 48)));have HE4:=hid (Bx.make (Ext.refl w4) #[.string ox.name,.slice A4 n4 c4] 48);have HR4:=hid (hr4.ext (Ext.alloc w4 (.cells #[.string ox.name,.slice A4 n4 c4] 48)));have HC4:=hid (HBC.out.later HX4.out);have q0:=HE4.out.cell (i:=0) rfl;have q1:=HE4.out.cell (i:=1) rfl;clear hr4 hx4) | (go_at_call 27;(with_reducible refine (HAL _ _ _ _ HC4.out.ext HR4.out).mono ?_);rintro e w5 ⟨rfl,hx5⟩;have HX5:=hid (HC4.out.ext.trans hx5);have HC5:=hid (HC4.out.later hx5);have HE5:=hid (HE4.out.later hx5);have p0:=HC5.out.cell (i:=0) rfl;have p1:=HC5.out.cell (i:=1) rfl;have r0:=HE5.out.cell (i:=0) rfl;have r1:=HE5.out.cell (i:=1) rfl;have s0:=(HBS.out.later HX5.out).cell (i:=0) rfl;have HM5:=hid (HMS.out.ext HX5.out);(try have hlk:=HLK.out _ HM5.out);clear hx5) ))
     go_ret
     exact RightSays.no HE.out (HBS.out.ext.trans HX5.out)
    | false=>
     by_cases hne : ox.name = nm1
     ·have HSZ2:=hid (HSZ.out hne rfl)
      have t1 : (ox.name.toList == nm1.toList) = true:=str_eq hne
      have HNE:=hid hne
      clear hne
      have HLK : Hid (∀ w',MSet w' w.heap.size j ((cs.take j).map (·.name)) → (Instr.lookup 79 (.map (some w.heap.size)) (.string nm1) false).run Tryz.prog w' = .ok (.bool (seenB ((cs.take j).map (·.name)) nm1)) w'):=fun w' h=>h.look_run nm1 HSZ2.out
      cases hsn : seenB ((cs.take j).map (·.name)) nm1 with
      | true=>
       have HE : Hid (¬ RightOk l cs sv):=fun k=>apart_no HGJ.out hsn k.apart
       rw [hsn] at HLK
       clear hsn
       go_wp2_with ((first | (go_at_call 26;(with_reducible refine (HTG _ HBC.out.ext).mono ?_);rintro e w4 ⟨A4,n4,c4,rfl,hr4,hx4⟩;have HX4:=hid (hx4.trans (Ext.alloc w4 (.cells #[.string ox.name,.slice A4 n4 c4] 48)));have HE4:=hid (Bx.make (Ext.refl w4) #[.string ox.name,.slice A4 n4 c4] 48);have HR4:=hid (hr4.ext (Ext.alloc w4 (.cells #[.string ox.name,.slice A4 n4 c4] 48)));have HC4:=hid (HBC.out.later HX4.out);have q0:=HE4.out.cell (i:=0) rfl;have q1:=HE4.out.cell (i:=1) rfl;clear hr4 hx4) | (go_at_call 27;(with_reducible refine (HAL _ _ _ _ HC4.out.ext HR4.out).mono ?_);rintro e w5 ⟨rfl,hx5⟩;have HX5:=hid (HC4.out.ext.trans hx5);have HC5:=hid (HC4.out.later hx5);have HE5:=hid (HE4.out.later hx5);have p0:=HC5.out.cell (i:=0) rfl;have p1:=HC5.out.cell (i:=1) rfl;have r0:=HE5.out.cell (i:=0) rfl;have r1:=HE5.out.cell (i:=1) rfl;have s0:=(HBS.out.later HX5.out).cell (i:=0) rfl;have HM5:=hid (HMS.out.ext HX5.out);(try have hlk:=HLK.out _ HM5.out);clear hx5)))
       go_ret
       exact RightSays.no HE.out (HBS.out.ext.trans HX5.out)
      | false=>
       have HAP:=hid (apart_snoc HGD.out.2 HGJ.out hsn)
       rw [hsn] at HLK
       clear hsn
       by_cases hv1 : sv1 < 0
       ·have HE : Hid (¬ RightOk l cs sv):=HNG.out (fun h=>by have:=(HGI.out.1 h).2.2.2.1;omega)
        go_wp2_with ((first | (go_at_call 26;(with_reducible refine (HTG _ HBC.out.ext).mono ?_);rintro e w4 ⟨A4,n4,c4,rfl,hr4,hx4⟩;have HX4:=hid (hx4.trans (Ext.alloc w4 (.cells #[.string ox.name,.slice A4 n4 c4] 48)));have HE4:=hid (Bx.make (Ext.refl w4) #[.string ox.name,.slice A4 n4 c4] 48);have HR4:=hid (hr4.ext (Ext.alloc w4 (.cells #[.string ox.name,.slice A4 n4 c4] 48)));have HC4:=hid (HBC.out.later HX4.out);have q0:=HE4.out.cell (i:=0) rfl;have q1:=HE4.out.cell (i:=1) rfl;clear hr4 hx4) | (go_at_call 27;(with_reducible refine (HAL _ _ _ _ HC4.out.ext HR4.out).mono ?_);rintro e w5 ⟨rfl,hx5⟩;have HX5:=hid (HC4.out.ext.trans hx5);have HC5:=hid (HC4.out.later hx5);have HE5:=hid (HE4.out.later hx5);have p0:=HC5.out.cell (i:=0) rfl;have p1:=HC5.out.cell (i:=1) rfl;have r0:=HE5.out.cell (i:=0) rfl;have r1:=HE5.out.cell (i:=1) rfl;have s0:=(HBS.out.later HX5.out).cell (i:=0) rfl;have HM5:=hid (HMS.out.ext HX5.out);(try have hlk:=HLK.out _ HM5.out);clear hx5)))
        go_ret
        exact RightSays.no HE.out (HBS.out.ext.trans HX5.out)
       by_cases hv2 : sv ≤ sv1
       ·have HE : Hid (¬ RightOk l cs sv):=HNG.out (fun h=>by have:=(HGI.out.1 h).2.2.2.2;omega)
        go_wp2_with ((first | (go_at_call 26;(with_reducible refine (HTG _ HBC.out.ext).mono ?_);rintro e w4 ⟨A4,n4,c4,rfl,hr4,hx4⟩;have HX4:=hid (hx4.trans (Ext.alloc w4 (.cells #[.string ox.name,.slice A4 n4 c4] 48)));have HE4:=hid (Bx.make (Ext.refl w4) #[.string ox.name,.slice A4 n4 c4] 48);have HR4:=hid (hr4.ext (Ext.alloc w4 (.cells #[.string ox.name,.slice A4 n4 c4] 48)));have HC4:=hid (HBC.out.later HX4.out);have q0:=HE4.out.cell (i:=0) rfl;have q1:=HE4.out.cell (i:=1) rfl;clear hr4 hx4) | (go_at_call 27;(with_reducible refine (HAL _ _ _ _ HC4.out.ext HR4.out).mono ?_);rintro e w5 ⟨rfl,hx5⟩;have HX5:=hid (HC4.out.ext.trans hx5);have HC5:=hid (HC4.out.later hx5);have HE5:=hid (HE4.out.later hx5);have p0:=HC5.out.cell (i:=0) rfl;have p1:=HC5.out.cell (i:=1) rfl;have r0:=HE5.out.cell (i:=0) rfl;have r1:=HE5.out.cell (i:=1) rfl;have s0:=(HBS.out.later HX5.out).cell (i:=0) rfl;have HM5:=hid (HMS.out.ext HX5.out);(try have hlk:=HLK.out _ HM5.out);clear hx5)))
        go_ret
        exact RightSays.no HE.out (HBS.out.ext.trans HX5.out)
       have HGD2 : Hid (∀ c ∈ cs.take (j + 1),goodC l sv c):=fun c hc=>by
        rw [List.take_add_one,HGJ.out] at hc
        rcases List.mem_append.1 hc with h | h
        ·exact HGD.out.1 c h
        ·simp at h;rw [h];exact HGI.out.2 ⟨rfl,rfl,HNE.out,by omega,by omega⟩
       have HTK : Hid ((cs.take j).map (·.name) ++ [nm1] = (cs.take (j + 1)).map (·.name)):=by show _ = _;rw [List.take_add_one,HGJ.out,List.map_append];rfl
       go_wp2_with ((first | (go_at_call 26;(with_reducible refine (HTG _ HBC.out.ext).mono ?_);rintro e w4 ⟨A4,n4,c4,rfl,hr4,hx4⟩;have HX4:=hid (hx4.trans (Ext.alloc w4 (.cells #[.string ox.name,.slice A4 n4 c4] 48)));have HE4:=hid (Bx.make (Ext.refl w4) #[.string ox.name,.slice A4 n4 c4] 48);have HR4:=hid (hr4.ext (Ext.alloc w4 (.cells #[.string ox.name,.slice A4 n4 c4] 48)));have HC4:=hid (HBC.out.later HX4.out);have q0:=HE4.out.cell (i:=0) rfl;have q1:=HE4.out.cell (i:=1) rfl;clear hr4 hx4) | (go_at_call 27;(with_reducible refine (HAL _ _ _ _ HC4.out.ext HR4.out).mono ?_);rintro e w5 ⟨rfl,hx5⟩;have HX5:=hid (HC4.out.ext.trans hx5);have HC5:=hid (HC4.out.later hx5);have HE5:=hid (HE4.out.later hx5);have p0:=HC5.out.cell (i:=0) rfl;have p1:=HC5.out.cell (i:=1) rfl;have r0:=HE5.out.cell (i:=0) rfl;have r1:=HE5.out.cell (i:=1) rfl;have s0:=(HBS.out.later HX5.out).cell (i:=0) rfl;have HM5:=hid (HMS.out.ext HX5.out);(try have hlk:=HLK.out _ HM5.out);clear hx5) | (at_mapUpdate;refine mset_put rfl _ _ _ rfl HM5.out (by simp only [maxLen];omega) rfl _ HSZ2.out rfl rfl ?_;intro w6 hm6 hg6;have HM6:=hid hm6;have HB6:=hid ((HBS.out.later HX5.out).grown hg6 (fun e=>by injection e with e;omega) (Below.grown (Below.refl _ _) hg6 (HBS.out.ext.trans HX5.out).size (fun k hk=>by injection hk with hk;omega)));clear hm6 hg6)))
       exact ⟨⟨j + 1,by omega,by go_num,HB6.out,by rw [← HTK.out];exact HM6.out,HGD2.out,HAP.out⟩,by simp [intOf];omega⟩
     ·have HE : Hid (¬ RightOk l cs sv):=HNG.out (fun h=>hne (HGI.out.1 h).2.2.1)
      have t1 : (ox.name.toList == nm1.toList) = false:=str_ne hne
      clear hne
      go_wp2_with ((first | (go_at_call 26;(with_reducible refine (HTG _ HBC.out.ext).mono ?_);rintro e w4 ⟨A4,n4,c4,rfl,hr4,hx4⟩;have HX4:=hid (hx4.trans (Ext.alloc w4 (.cells #[.string ox.name,.slice A4 n4 c4] 48)));have HE4:=hid (Bx.make (Ext.refl w4) #[.string ox.name,.slice A4 n4 c4] 48);have HR4:=hid (hr4.ext (Ext.alloc w4 (.cells #[.string ox.name,.slice A4 n4 c4] 48)));have HC4:=hid (HBC.out.later HX4.out);have q0:=HE4.out.cell (i:=0) rfl;have q1:=HE4.out.cell (i:=1) rfl;clear hr4 hx4) | (go_at_call 27;(with_reducible refine (HAL _ _ _ _ HC4.out.ext HR4.out).mono ?_);rintro e w5 ⟨rfl,hx5⟩;have HX5:=hid (HC4.out.ext.trans hx5);have HC5:=hid (HC4.out.later hx5);have HE5:=hid (HE4.out.later hx5);have p0:=HC5.out.cell (i:=0) rfl;have p1:=HC5.out.cell (i:=1) rfl;have r0:=HE5.out.cell (i:=0) rfl;have r1:=HE5.out.cell (i:=1) rfl;have s0:=(HBS.out.later HX5.out).cell (i:=0) rfl;have HM5:=hid (HMS.out.ext HX5.out);(try have hlk:=HLK.out _ HM5.out);clear hx5) ))
      go_ret
      exact RightSays.no HE.out (HBS.out.ext.trans HX5.out)
  ·obtain rfl : j = n:=by omega
   have hlt' : ¬ (j : Int) < (j : Int):=by omega
   rw [List.take_of_length_le (Nat.le_of_eq HL.out.symm)] at HMS HGD
   have HRE:=hid (right_end HN.out HS18.out HCF.out HGD.out.1 HGD.out.2)
   have HKZ : Hid (∀ x ∈ kidsR (sortN nmE l) [],x.size ≤ maxLen):=fun x hx=>by
    rw [kids_root] at hx
    obtain ⟨e,he,rfl⟩:=List.mem_map.1 hx
    have:=(HF.out e ((sortN_ok HN.out.self HN.out.apart).1.mem_iff.1 (List.mem_filter.1 he).1)).name
    simp only [maxLen]
    omega
   have HKI : Calls Tryz.prog 29 #[.pointer (some ⟨g,0,none⟩),.string ⟨#[]⟩] wr (KidsSays wr (kidsR (sortN nmE l) [])):=tchildren_any (HT.out.ext HBS.out.ext) ⟨#[]⟩ (HG.out.gl.ext HBS.out.ext) HLL.out HN.out
   unfold KidsSays at HKI
   have HCO : ∀ A' n' c' w',Ext wr w' → Row Elem.str (fun _=>True) w' A' n' c' (kidsR (sortN nmE l) []) → Calls Tryz.prog 28 #[.slice A' n' c',.func (.func 30) #[] #[.pointer (some ⟨w.heap.size + 1,0,none⟩)]] w' fun e w''=>e = .returned (.bool ((kidsR (sortN nmE l) []).any fun x=>!seenB (cs.map (·.name)) x)) ∧ Ext w' w'':=
    fun A' n' c' w' hx hr=>containsseen_any hr (w.heap.size + 1) w.heap.size j _ HKZ.out ((HBS.out.later hx).cell (i:=0) rfl) (HMS.out.ext hx)
   have hmf : ∀ (fn : Fn) (first cap : Array Value) (w : World),(Instr.makeFunc fn first cap).run Tryz.prog w = .ok (.func fn first cap) w:=fun _ _ _ _=>rfl
   generalize kidsR (sortN nmE l) [] = ks at *
   generalize (ks.any fun x=>!seenB (cs.map (·.name)) x) = q at *
   go_wp2_with (first
    | (go_at_call 29;(with_reducible refine HKI.mono ?_);rintro e w6 ⟨A6,n6,c6,rfl,hr6,hx6⟩;have HR6:=hid hr6;have HX6:=hid hx6;clear hr6 hx6)
    | (go_at_call 28;(with_reducible refine (HCO _ _ _ _ HX6.out HR6.out).mono ?_);rintro e w7 ⟨rfl,hx7⟩;have HX7:=hid (HBS.out.ext.trans (HX6.out.trans hx7));clear hx7))
   go_ret
   refine ⟨!q,rfl,?_,HX7.out⟩
   rw [← HRE.out]
   cases q <;> simp
end Go.Proofs.YtahahafhendgoaaGreatDoor
namespace Go.Proofs.YtahahafhendgoaaGreatDoor
open Go.RowKit
set_option maxRecDepth 100000
def ctxCells (k : Nat) (nm : Nat → ByteArray) (ve vs : Nat → Value) : Array Value:=(Array.range (k * 3)).map fun j=>if j % 3 = 0 then .string (nm (j / 3)) else if j % 3 = 1 then ve (j / 3) else vs (j / 3)
theorem ctxCells_size (k : Nat) (nm : Nat → ByteArray) (ve vs : Nat → Value) : (ctxCells k nm ve vs).size = k * 3:=by simp [ctxCells]
theorem ctxCells_at (k : Nat) (nm : Nat → ByteArray) (ve vs : Nat → Value) (j : Nat) : (ctxCells k nm ve vs)[j]? = if j < k * 3 then some (if j % 3 = 0 then .string (nm (j / 3)) else if j % 3 = 1 then ve (j / 3) else vs (j / 3)) else none:=by
 unfold ctxCells
 rw [Array.getElem?_map]
 by_cases h : j < k * 3
 ·rw [if_pos h,Array.getElem?_eq_getElem (by simpa using h)]
  simp
 ·rw [if_neg h,Array.getElem?_eq_none (by simpa using h)]
  rfl
theorem ctx_at0 {k i : Nat} (hi : i < k) (nm : Nat → ByteArray) (ve vs : Nat → Value) : (ctxCells k nm ve vs)[i * 3]? = some (.string (nm i)):=by
 rw [ctxCells_at,if_pos (by omega),if_pos (by omega),show i * 3 / 3 = i by omega]
theorem ctx_at1 {k i : Nat} (hi : i < k) (nm : Nat → ByteArray) (ve vs : Nat → Value) : (ctxCells k nm ve vs)[i * 3 + 1]? = some (ve i):=by
 rw [ctxCells_at,if_pos (by omega),if_neg (by omega),if_pos (by omega),show (i * 3 + 1) / 3 = i by omega]
theorem ctx_at2 {k i : Nat} (hi : i < k) (nm : Nat → ByteArray) (ve vs : Nat → Value) : (ctxCells k nm ve vs)[i * 3 + 2]? = some (vs i):=by
 rw [ctxCells_at,if_pos (by omega),if_neg (by omega),if_neg (by omega),show (i * 3 + 2) / 3 = i by omega]
theorem ctx_set0 {k i : Nat} (hi : i < k) (nm : Nat → ByteArray) (ve vs : Nat → Value) (x : ByteArray) : (ctxCells k nm ve vs).setIfInBounds (i * 3) (.string x) = ctxCells k (upd nm i x) ve vs:=by
 apply Array.ext_getElem?
 intro j
 rw [Array.getElem?_setIfInBounds,ctxCells_size,ctxCells_at,ctxCells_at]
 by_cases h : i * 3 = j
 ·rw [if_pos h,if_pos (by omega),if_pos (by omega),if_pos (by omega),show j / 3 = i by omega,upd_same]
 ·rw [if_neg h]
  by_cases h2 : j % 3 = 0
  ·rw [if_pos h2,if_pos h2,upd_other _ _ (show j / 3 ≠ i by omega)]
  ·rw [if_neg h2,if_neg h2]
theorem ctx_set1 {k i : Nat} (hi : i < k) (nm : Nat → ByteArray) (ve vs : Nat → Value) (x : Value) : (ctxCells k nm ve vs).setIfInBounds (i * 3 + 1) x = ctxCells k nm (upd ve i x) vs:=by
 apply Array.ext_getElem?
 intro j
 rw [Array.getElem?_setIfInBounds,ctxCells_size,ctxCells_at,ctxCells_at]
 by_cases h : i * 3 + 1 = j
 ·rw [if_pos h,if_pos (by omega),if_pos (by omega),if_neg (by omega),if_pos (by omega),show j / 3 = i by omega,upd_same]
 ·rw [if_neg h]
  by_cases h2 : j % 3 = 1
  ·rw [if_neg (show ¬ j % 3 = 0 by omega),if_pos h2,if_neg (show ¬ j % 3 = 0 by omega),if_pos h2,upd_other _ _ (show j / 3 ≠ i by omega)]
  ·rw [if_neg h2,if_neg h2]
theorem ctx_set2 {k i : Nat} (hi : i < k) (nm : Nat → ByteArray) (ve vs : Nat → Value) (x : Value) : (ctxCells k nm ve vs).setIfInBounds (i * 3 + 2) x = ctxCells k nm ve (upd vs i x):=by
 apply Array.ext_getElem?
 intro j
 rw [Array.getElem?_setIfInBounds,ctxCells_size,ctxCells_at,ctxCells_at]
 by_cases h : i * 3 + 2 = j
 ·rw [if_pos h,if_pos (by omega),if_pos (by omega),if_neg (by omega),if_neg (by omega),show j / 3 = i by omega,upd_same]
 ·rw [if_neg h]
  by_cases h2 : j % 3 = 0
  ·rw [if_pos h2,if_pos h2]
  ·rw [if_neg h2,if_neg h2]
   by_cases h3 : j % 3 = 1
   ·rw [if_pos h3,if_pos h3]
   ·rw [if_neg h3,if_neg h3,upd_other _ _ (show j / 3 ≠ i by omega)]
theorem ctxCells_out (k : Nat) (nm : Nat → ByteArray) (ve vs : Nat → Value) (x : Value) : ctxCells k nm ve (upd vs k x) = ctxCells k nm ve vs:=by
 apply Array.ext_getElem?
 intro j
 rw [ctxCells_at,ctxCells_at]
 by_cases h : j < k * 3
 ·rw [if_pos h,if_pos h,upd_other _ _ (show j / 3 ≠ k by omega)]
 ·rw [if_neg h,if_neg h]
def srvCells (n : Nat) (vv : Nat → Value) : Array Value:=(Array.range n).map vv
theorem srv_at {n i : Nat} (hi : i < n) (vv : Nat → Value) : (srvCells n vv)[i]? = some (vv i):=by
 unfold srvCells
 rw [Array.getElem?_map,Array.getElem?_eq_getElem (by simpa using hi)]
 simp
theorem srv_set {n i : Nat} (hi : i < n) (vv : Nat → Value) (x : Value) : (srvCells n vv).setIfInBounds i x = srvCells n (upd vv i x):=by
 apply Array.ext_getElem?
 intro j
 unfold srvCells
 rw [Array.getElem?_setIfInBounds,Array.getElem?_map,Array.getElem?_map]
 simp only [Array.size_map,Array.size_range]
 by_cases h : i = j
 ·subst h
  rw [if_pos rfl,if_pos hi,Array.getElem?_eq_getElem (by simpa using hi)]
  simp [upd_same]
 ·rw [if_neg h]
  by_cases hj : j < n
  ·rw [Array.getElem?_eq_getElem (by simpa using hj)]
   simp [upd_other _ _ (show j ≠ i from fun e=>h e.symm)]
  ·rw [Array.getElem?_eq_none (by simpa using hj)]
   rfl
theorem infoCxtP : (Tryz.prog.info? 38).map (fun i=>(i.zero,i.size,i.bytes)) = some (some (.agg #[.string ByteArray.empty,.slice none 0 0,.slice none 0 0]),Elem.cxt.k,64):=by kernel_rfl
theorem infoSrvP : (Tryz.prog.info? 36).map (fun i=>(i.zero,i.size,i.bytes)) = some (some (.agg #[.slice none 0 0]),Elem.srw.k,24):=by kernel_rfl
theorem make_ctx (k : Nat) (hk : k ≤ 65536) : ∀ w : World,(Instr.makeSlice 34 (.int .i64 (k : Int)) (.int .i64 (k : Int))).run Tryz.prog w = .ok (.slice (some ⟨w.heap.size,0,none⟩) k k) (w.alloc (.cells (ctxCells k (fun _=>ByteArray.empty) (fun _=>.slice none 0 0) (fun _=>.slice none 0 0)) 38)):=fun w=>by
 obtain ⟨i0,hi,hz0,hz1,hz2⟩:=info_parts infoCxtP
 have hr:=run_make (P:=Tryz.prog) w 34 38 i0 _ Tryz.underlying34 hi hz0 .i64 .i64 k k (by omega) (by omega) (by rw [hz2];omega) (by omega)
 simp only [Int.toNat_natCast] at hr
 rw [hr]
 have e : madeCells (Value.agg #[.string ByteArray.empty,.slice none 0 0,.slice none 0 0]).cells (k * i0.size) = ctxCells k (fun _=>ByteArray.empty) (fun _=>.slice none 0 0) (fun _=>.slice none 0 0):=by
  rw [hz1]
  unfold madeCells ctxCells
  show (Array.range (k * 3)).map _ = _
  congr 1
  funext j
  show (#[Value.string ByteArray.empty,.slice none 0 0,.slice none 0 0] : Array Value)[j % 3]! = _
  have h3 : j % 3 < 3:=Nat.mod_lt _ (by decide)
  generalize j % 3 = r at *
  rcases r with _ | _ | _ | r
  ·rfl
  ·rfl
  ·rfl
  ·omega
 rw [e]
theorem make_srv (k : Nat) (hk : k ≤ 65536) : ∀ w : World,(Instr.makeSlice 26 (.int .i64 (k : Int)) (.int .i64 (k : Int))).run Tryz.prog w = .ok (.slice (some ⟨w.heap.size,0,none⟩) k k) (w.alloc (.cells (srvCells k (fun _=>.slice none 0 0)) 36)):=fun w=>by
 obtain ⟨i0,hi,hz0,hz1,hz2⟩:=info_parts infoSrvP
 have hr:=run_make (P:=Tryz.prog) w 26 36 i0 _ Tryz.underlying26 hi hz0 .i64 .i64 k k (by omega) (by omega) (by rw [hz2];omega) (by omega)
 simp only [Int.toNat_natCast] at hr
 rw [hr]
 have e : madeCells (Value.agg #[.slice none 0 0]).cells (k * i0.size) = srvCells k (fun _=>.slice none 0 0):=by
  rw [hz1]
  unfold madeCells srvCells
  show (Array.range (k * 1)).map _ = _
  rw [Nat.mul_one]
  congr 1
  funext j
  show (#[Value.slice none 0 0] : Array Value)[j % 1]! = _
  rw [Nat.mod_one]
  rfl
 rw [e]
theorem set_grown (w : World) (g i : Nat) (v : Value) : w.grownBy (w.setCell ⟨g,i,none⟩ v) (some g):=⟨rfl,rfl,rfl,by simp,fun k hk hne=>heap_setCell_other _ _ _ _ (fun e=>hne (by rw [e]))⟩
theorem fam_step {α : Type} {E : Elem α} {S : Nat → Prop} {T TC : TypeId} {L B0 k i q : Nat} {wM wD w9 : World} {ve : Nat → Value} {es : Nat → List α} {cells cells' : Array Value} {o : Obj} {v' z : Value} {l' : List α} (hi : i < k) (hC : wD.heap[L]? = some (.cells cells TC (0,0)))
 (hF : Fam E S T L wM B0 k wD ve es) (hS : ∀ b,S b → b < B0) (hB : B0 ≤ wD.heap.size) (k1 : GrowM E S T (some L) wM w9 v' l') (k2 : (wD.alloc o).grownBy w9 (ve i).ownBlock) (k3 : v'.ownBlock = (ve i).ownBlock ∨ v'.ownBlock = some (wD.alloc o).heap.size)
 (hq : cells[q]? = some z) (hset : cells.setIfInBounds q v' = cells') :
 (w9.cell? ⟨L,q,none⟩ = some z ∧ w9.frozen? ⟨L,q,none⟩ = false) ∧ (w9.setCell ⟨L,q,none⟩ v').heap[L]? = some (.cells cells' TC (0,0)) ∧ Fam E S T L wM B0 k (w9.setCell ⟨L,q,none⟩ v') (upd ve i v') (upd es i l') ∧
   (∀ b,b < B0 → b ≠ L → (w9.setCell ⟨L,q,none⟩ v').heap[b]? = wD.heap[b]?) ∧ wD.heap.size ≤ (w9.setCell ⟨L,q,none⟩ v').heap.size ∧ Ext wM (w9.setCell ⟨L,q,none⟩ v'):=by
 have hLD:=(Array.getElem?_eq_some_iff.1 hC).1
 have hsz : (wD.alloc o).heap.size = wD.heap.size + 1:=by simp
 have hne : some L ≠ (ve i).ownBlock:=fun e=>((hF.row i hi).apart L rfl).1 e.symm
 have hC9 : w9.heap[L]? = some (.cells cells TC (0,0)):=by
  rw [k2.block L (by omega) hne,(Ext.alloc wD o).block L hLD,hC]
 have hF9:=Fam.upd hi (hF.later (Ext.alloc wD o)) hS (by omega) k1 k2 k3
 have hFS:=hF9.setL q v'
 refine ⟨⟨?_,?_⟩,?_,hFS,fun b hb hbL=>?_,?_,(hFS.row i hi).ext⟩
 ·rw [cell_of_row w9 L q cells TC (0,0) hC9];exact hq
 ·exact frozen_of_row w9 L q cells TC hC9
 ·rw [← hset];exact heap_setCell_same w9 L q cells TC v' hC9
 ·rw [heap_setCell_other _ _ _ _ hbL,k2.block b (by omega) (fun e=>?_),(Ext.alloc wD o).block b (by omega)]
  have:=hF.high i hi b e.symm
  omega
 ·have:=k2.size
  have h2 : (w9.setCell ⟨L,q,none⟩ v').heap.size = w9.heap.size:=by simp
  omega
theorem top_step {α : Type} {E : Elem α} {S : Nat → Prop} {T TG : TypeId} {L G B0 k i q : Nat} {wM wD w9 : World} {ve : Nat → Value} {es : Nat → List α} {cells : Array Value} {o : Obj} {v' z : Value} {l' : List α} (hi : i < k) (hC : wD.heap[G]? = some (.cells cells TG (0,0)))
 (hF : Fam E S T L wM B0 k wD ve es) (hS : ∀ b,S b → b < B0) (hB : B0 ≤ wD.heap.size) (hGB : G < B0) (hGM : wM.heap.size ≤ G) (hGS : ¬ S G) (k1 : GrowM E S T (some L) wM w9 v' l') (k2 : (wD.alloc o).grownBy w9 (ve i).ownBlock) (k3 : v'.ownBlock = (ve i).ownBlock ∨ v'.ownBlock = some (wD.alloc o).heap.size)
 (hq : cells[q]? = some z) :
 (w9.cell? ⟨G,q,none⟩ = some z ∧ w9.frozen? ⟨G,q,none⟩ = false) ∧ (w9.setCell ⟨G,q,none⟩ v').heap[G]? = some (.cells (cells.setIfInBounds q v') TG (0,0)) ∧ Fam E S T L wM B0 k (w9.setCell ⟨G,q,none⟩ v') (upd ve i v') (upd es i l') ∧
   (∀ b,b < B0 → b ≠ G → (w9.setCell ⟨G,q,none⟩ v').heap[b]? = wD.heap[b]?) ∧ wD.heap.size ≤ (w9.setCell ⟨G,q,none⟩ v').heap.size ∧ Ext wM (w9.setCell ⟨G,q,none⟩ v'):=by
 have hsz : (wD.alloc o).heap.size = wD.heap.size + 1:=by simp
 have hne : some G ≠ (ve i).ownBlock:=fun e=>by have:=hF.high i hi G e.symm;omega
 have hC9 : w9.heap[G]? = some (.cells cells TG (0,0)):=by
  rw [k2.block G (by omega) hne,(Ext.alloc wD o).block G (by omega),hC]
 have hF9:=Fam.upd hi (hF.later (Ext.alloc wD o)) hS (by omega) k1 k2 k3
 have hFS:=hF9.kept (set_grown w9 G q v') (fun b hb=>by
  injection hb with hb
  subst hb
  exact ⟨hGM,fun j hj e=>by have:=hF9.high j hj G e;omega,.inr hGS⟩)
 refine ⟨⟨?_,?_⟩,heap_setCell_same w9 G q cells TG v' hC9,hFS,fun b hb hbL=>?_,?_,(hFS.row i hi).ext⟩
 ·rw [cell_of_row w9 G q cells TG (0,0) hC9];exact hq
 ·exact frozen_of_row w9 G q cells TG hC9
 ·rw [heap_setCell_other _ _ _ _ hbL,k2.block b (by omega) (fun e=>?_),(Ext.alloc wD o).block b (by omega)]
  have:=hF.high i hi b e.symm
  omega
 ·have:=k2.size
  have h2 : (w9.setCell ⟨G,q,none⟩ v').heap.size = w9.heap.size:=by simp
  omega
end Go.Proofs.YtahahafhendgoaaGreatDoor
namespace Go.Proofs.YtahahafhendgoaaGreatDoor
theorem sum_bump (g : Nat → Nat) (i0 : Nat) : ∀ k,((List.range k).map fun i=>g i + if i = i0 then 1 else 0).sum = ((List.range k).map g).sum + if i0 < k then 1 else 0
 | 0=>by simp
 | k + 1=>by
  rw [List.range_succ,List.map_append,List.map_append,List.sum_append,List.sum_append,sum_bump g i0 k]
  simp only [List.map_cons,List.map_nil,List.sum_cons,List.sum_nil,Nat.add_zero]
  by_cases h1 : i0 < k
  ·rw [if_pos h1,if_neg (show ¬ k = i0 by omega),if_pos (show i0 < k + 1 by omega)];omega
  ·by_cases h2 : k = i0
   ·rw [if_neg h1,if_pos h2,if_pos (show i0 < k + 1 by omega)];omega
   ·rw [if_neg h1,if_neg h2,if_neg (show ¬ i0 < k + 1 by omega)];omega
theorem sum_bump' (g : Nat → Nat) (i0 m : Nat) : ∀ k,((List.range k).map fun i=>g i + if i = i0 then m else 0).sum = ((List.range k).map g).sum + if i0 < k then m else 0
 | 0=>by simp
 | k + 1=>by
  rw [List.range_succ,List.map_append,List.map_append,List.sum_append,List.sum_append,sum_bump' g i0 m k]
  simp only [List.map_cons,List.map_nil,List.sum_cons,List.sum_nil,Nat.add_zero]
  by_cases h1 : i0 < k
  ·rw [if_pos h1,if_neg (show ¬ k = i0 by omega),if_pos (show i0 < k + 1 by omega)];omega
  ·by_cases h2 : k = i0
   ·rw [if_neg h1,if_pos h2,if_pos (show i0 < k + 1 by omega)];omega
   ·rw [if_neg h1,if_neg h2,if_neg (show ¬ i0 < k + 1 by omega)];omega
theorem count_parts {α : Type} (f : α → Int) (k : Nat) : ∀ l : List α,(∀ x ∈ l,-1 ≤ f x ∧ f x < k) → (l.filter fun x=>decide (f x < 0)).length + ((List.range k).map fun i : Nat=>(l.filter fun x=>decide (f x = (i : Int))).length).sum = l.length
 | [],_=>by
  have : ∀ k : Nat,((List.range k).map fun _=>(0 : Nat)).sum = 0:=fun k=>by
   induction k with
   | zero=>rfl
   | succ k ih=>rw [List.range_succ,List.map_append,List.sum_append,ih];rfl
  simpa using this k
 | x :: l,h=>by
  have ih:=count_parts f k l fun y hy=>h y (by simp [hy])
  obtain ⟨h1,h2⟩:=h x (by simp)
  by_cases hn : f x < 0
  ·have e : ∀ i : Nat,((x :: l).filter fun x=>decide (f x = (i : Int))).length = (l.filter fun x=>decide (f x = (i : Int))).length:=fun i=>by
    rw [List.filter_cons_of_neg (by simp;omega)]
   have e2 : ((x :: l).filter fun x=>decide (f x < 0)).length = (l.filter fun x=>decide (f x < 0)).length + 1:=by
    rw [List.filter_cons_of_pos (by simp;omega),List.length_cons]
   rw [e2,List.length_cons]
   simp only [e]
   omega
  ·obtain ⟨i0,hi0⟩ : ∃ i0 : Nat,f x = i0:=⟨(f x).toNat,by omega⟩
   have e : ∀ i : Nat,((x :: l).filter fun x=>decide (f x = (i : Int))).length = (l.filter fun x=>decide (f x = (i : Int))).length + if i = i0 then 1 else 0:=fun i=>by
    by_cases hi : i = i0
    ·rw [List.filter_cons_of_pos (by simp;omega),List.length_cons,if_pos hi]
    ·rw [List.filter_cons_of_neg (by simp;omega),if_neg hi];rfl
   have e2 : ((x :: l).filter fun x=>decide (f x < 0)).length = (l.filter fun x=>decide (f x < 0)).length:=by
    rw [List.filter_cons_of_neg (by simp;omega)]
   rw [e2,List.length_cons]
   simp only [e]
   rw [sum_bump,if_pos (by omega)]
   omega
theorem sum_groups (f : Nat → Int) (g : Nat → Nat) (n : Nat) : ∀ l : List Nat,(∀ i ∈ l,0 ≤ f i ∧ f i < n) → ((List.range n).map fun s : Nat=>((l.filter fun i=>decide (f i = (s : Int))).map g).sum).sum = (l.map g).sum
 | [],_=>by
  have : ∀ k : Nat,((List.range k).map fun _=>(0 : Nat)).sum = 0:=fun k=>by
   induction k with
   | zero=>rfl
   | succ k ih=>rw [List.range_succ,List.map_append,List.sum_append,ih];rfl
  simpa using this n
 | x :: l,h=>by
  have ih:=sum_groups f g n l fun y hy=>h y (by simp [hy])
  obtain ⟨h1,h2⟩:=h x (by simp)
  obtain ⟨s0,hs0⟩ : ∃ s0 : Nat,f x = s0:=⟨(f x).toNat,by omega⟩
  have e : ∀ s : Nat,(((x :: l).filter fun i=>decide (f i = (s : Int))).map g).sum = ((l.filter fun i=>decide (f i = (s : Int))).map g).sum + if s = s0 then g x else 0:=fun s=>by
   by_cases hs : s = s0
   ·rw [List.filter_cons_of_pos (by simp;omega),List.map_cons,List.sum_cons,if_pos hs];omega
   ·rw [List.filter_cons_of_neg (by simp;omega),if_neg hs];rfl
  simp only [e]
  rw [sum_bump',if_pos (by omega),ih,List.map_cons,List.sum_cons]
  omega
theorem sum_srv {l : List Ent} {cs : List CutR} {n : Nat} (h : ∀ c ∈ cs,0 ≤ c.server ∧ c.server < n) (g : Cxt → Nat) : ((splitF' l cs n).map fun x=>(x.map g).sum).sum = ((List.range cs.length).map fun i=>g (ctxAt l cs i)).sum:=by
 unfold splitF' srvF
 rw [List.map_map]
 have:=sum_groups (fun i=>((cs[i]?).map (·.server)).getD (-1)) (fun i=>g (ctxAt l cs i)) n (List.range cs.length) (fun i hi=>by
  have hi':=List.mem_range.1 hi
  rw [List.getElem?_eq_getElem hi']
  exact h _ (List.getElem_mem hi'))
 rw [← this]
 congr 1
 apply List.map_congr_left
 intro s _
 simp only [Function.comp_apply,List.map_map]
 rfl
theorem knows_all {l : List Ent} {cs : List CutR} {n : Nat} (h : ∀ c ∈ cs,0 ≤ c.server ∧ c.server < n) : (topS cs).length + ((splitF' l cs n).map fun x=>(x.map fun y=>y.subs.length).sum).sum = cs.length:=by
 rw [sum_srv h]
 unfold topS
 have:=count_parts (upC cs) cs.length cs (fun c _=>by unfold upC;exact deepF_range _ _)
 exact this
end Go.Proofs.YtahahafhendgoaaGreatDoor
namespace Go.Proofs.YtahahafhendgoaaGreatDoor.bulks
theorem one_le {H : Type} (d : DataW H) : 1 ≤ Rows.uptoBulk d:=by
 cases d with
 | lit l=>cases l <;> simp [Rows.uptoBulk]
 | nil=>simp [Rows.uptoBulk]
 | ptr d=>simp [Rows.uptoBulk]
 | slice elems spare=>simp [Rows.uptoBulk]
 | agg parts=>simp [Rows.uptoBulk]
 | iface t d=>simp [Rows.uptoBulk]
 | map entries=>simp [Rows.uptoBulk]
 | held h=>simp [Rows.uptoBulk]
theorem part_le {H : Type} {d : DataW H} {l : List (DataW H)} (h : d ∈ l) : Rows.uptoBulk d ≤ Rows.uptoBulkAll l:=by
 induction l with
 | nil=>cases h
 | cons x r ih=>
  simp only [Rows.uptoBulkAll]
  cases List.mem_cons.1 h with
  | inl e=>subst e;omega
  | inr e=>have:=ih e;omega
theorem length_le {H : Type} (l : List (DataW H)) : l.length ≤ Rows.uptoBulkAll l:=by
 induction l with
 | nil=>simp [Rows.uptoBulkAll]
 | cons x r ih=>have:=one_le x;simp only [Rows.uptoBulkAll,List.length_cons];omega
theorem slice_le {H : Type} (elems spare : List (DataW H)) : elems.length + spare.length + 1 ≤ Rows.uptoBulk (.slice elems spare):=by
 have h1:=length_le elems
 have h2:=length_le spare
 simp only [Rows.uptoBulk]
 omega
theorem slice_elems {H : Type} (elems spare : List (DataW H)) : Rows.uptoBulkAll elems + 1 ≤ Rows.uptoBulk (.slice elems spare):=by
 simp only [Rows.uptoBulk]
 omega
theorem bound {H : Type} {l : List (DataW H)} (hk : Rows.uptoSmall H l = true) : Rows.uptoBulkAll l ≤ 1048576:=of_decide_eq_true hk
end Go.Proofs.YtahahafhendgoaaGreatDoor.bulks
namespace Go.Proofs.YtahahafhendgoaaGreatDoor
open Go.RowKit Go.ChangeShapes Go.WideShapes Go.Deep
set_option maxRecDepth 10000
theorem flat_split {k : Nat} : ∀ {vss : List (List Value)},(∀ v ∈ vss,v.length = k) → ∀ {j : Nat} {u : Value},vss.flatten[j]? = some u → ∃ i r v,vss[i]? = some v ∧ v[r]? = some u ∧ j = i * k + r ∧ r < k
 | [],_,j,u,h=>by simp at h
 | v0 :: vss,hl,j,u,h=>by
  have h0:=hl v0 (by simp)
  rw [List.flatten_cons] at h
  rcases Nat.lt_or_ge j v0.length with hj | hj
  ·rw [List.getElem?_append_left hj] at h
   exact ⟨0,j,v0,rfl,h,by omega,by omega⟩
  ·rw [List.getElem?_append_right hj] at h
   obtain ⟨i,r,v,h1,h2,h3,h4⟩:=flat_split (fun v hv=>hl v (by simp [hv])) h
   exact ⟨i + 1,r,v,by simpa using h1,h2,by rw [Nat.succ_mul];omega,h4⟩
section
variable {H : Type} {enc : TypeId × Value → H} {W : World}
theorem row_open {α : Type} (E : Elem α) (Q : α → Prop) {t e : TypeId} (ht : Tryz.prog.underlying t = some (.slice e)) (hk : Tryz.prog.cellsOf e = E.k) {M : Nat}
 (hE : ∀ (n : Nat) cs (x : DataW H × List MemPlace),DataW.trod enc Tryz.prog W 0 (fun _=>true) true n e cs = some x → Rows.uptoBulk x.1 < M → ∃ a,E.R (fun _=>True) W cs a ∧ Q a)
 {fuel : Nat} {cs : List Value} {x : DataW H × List MemPlace} (h : DataW.trod enc Tryz.prog W 0 (fun _=>true) true fuel t cs = some x) (hM : Rows.uptoBulk x.1 ≤ M) :
 ∃ A n c l,cs = [.slice A n c] ∧ Row E (fun _=>True) W A n c l ∧ l.length ≤ M ∧ ∀ a ∈ l,Q a:=by
 rcases open_slice ht h with ⟨rfl,rfl⟩ | ⟨a,len,cap,m,n,D,Pl,rfl,-,hl,hm,hmm,rfl,hx⟩
 ·exact ⟨none,0,0,[],rfl,Row.nil E _ W,by simp,by simp⟩
 ·simp only [if_true] at hmm
  subst hmm
  have hb:=bulks.slice_le (H:=H) ((List.range len).map D) ((List.range (m - len)).map fun j=>D (len + j))
  have hb2:=bulks.slice_elems (H:=H) ((List.range len).map D) ((List.range (m - len)).map fun j=>D (len + j))
  simp only [List.length_map,List.length_range] at hb
  simp only [] at hM
  have hD : ∀ i,i < len → Rows.uptoBulk (D i) < M:=fun i hi=>by
   have:=bulks.part_le (d:=D i) (l:=(List.range len).map D) (List.mem_map.2 ⟨i,List.mem_range.2 hi,rfl⟩)
   omega
  rcases Nat.eq_zero_or_pos len with h0 | h0
  ·subst h0
   exact ⟨some a,0,m,[],rfl,⟨rfl,Nat.zero_le _,hm,[],rfl,.inl rfl,fun i v x hi=>by simp at hi⟩,by simp,by simp⟩
  ·have hone : ∀ i,i < len → ∃ y : List Value × α,W.cells? 0 (a.add (i * E.k)) E.k = some y.1 ∧ E.R (fun _=>True) W y.1 y.2 ∧ Q y.2:=fun i hi=>by
    obtain ⟨cs',h1,h2⟩:=hx i (by omega)
    rw [hk] at h1
    obtain ⟨o,hR,hQ⟩:=hE n cs' _ h2 (hD i hi)
    exact ⟨(cs',o),h1,hR,hQ⟩
   haveI : Inhabited α:=⟨(hone 0 h0).choose.2⟩
   obtain ⟨f,hf⟩:=choose_lt hone
   have hspot : ∃ b off,a = ⟨b,off,none⟩:=by
    obtain ⟨h1,-,-⟩:=hf 0 h0
    obtain ⟨-,hlen,hc⟩:=World.cells?_some h1
    have h2:=hc 0 E.pos
    rw [List.getElem?_eq_getElem (by rw [hlen];exact E.pos)] at h2
    obtain ⟨b,off,spot⟩:=a
    have hs : spot = none:=by simpa [Addr.add] using World.cell?_spot h2
    exact ⟨b,off,by rw [hs]⟩
   obtain ⟨b,off,rfl⟩:=hspot
   have hall : ∀ v ∈ (List.range len).map fun i=>(f i).1,v.length = E.k:=fun v hv=>by
    obtain ⟨i,hi,rfl⟩:=List.mem_map.1 hv
    exact E.len (hf i (List.mem_range.1 hi)).2.1
   refine ⟨_,_,_,(List.range len).map fun i=>(f i).2,rfl,⟨by simp,hl,hm,(List.range len).map fun i=>(f i).1,by simp,.inr ⟨b,off,rfl,trivial,fun j u hj=>?_⟩,fun i v x hi hx=>?_⟩,by simp;omega,fun o ho=>?_⟩
   ·obtain ⟨i,r,v,h1,h2,rfl,hr⟩:=flat_split hall hj
    have hi : i < len:=by have:=(List.getElem?_eq_some_iff.1 h1).1;simpa using this
    have hv : v = (f i).1:=by simpa [hi] using h1.symm
    obtain ⟨-,-,hc⟩:=World.cells?_some (hf i hi).1
    have:=hc r hr
    rw [add_add,addr_add] at this
    rw [this,← hv,h2]
   ·have hi' : i < len:=by have:=(List.getElem?_eq_some_iff.1 hi).1;simpa using this
    have h1 : v = (f i).1:=by simpa [hi'] using hi.symm
    have h2 : x = (f i).2:=by simpa [hi'] using hx.symm
    subst h1 h2
    exact (hf i hi').2.1
   ·obtain ⟨i,hi,rfl⟩:=List.mem_map.1 ho
    exact (hf i (List.mem_range.1 hi)).2.2
theorem agg_open {t : TypeId} {fs : Array Field} (ht : Tryz.prog.underlying t = some (.struct fs)) {M : Nat} {fuel : Nat} {cs : List Value} {x : DataW H × List MemPlace}
 (h : DataW.trod enc Tryz.prog W 0 (fun _=>true) true fuel t cs = some x) (hM : Rows.uptoBulk x.1 ≤ M) :
 cs.length = Tryz.prog.cellsOf t ∧ ∀ (i : Nat) (f : Field),fs[i]? = some f → ∃ m y,DataW.trod enc Tryz.prog W 0 (fun _=>true) true m f.type ((cs.drop f.offset).take (Tryz.prog.cellsOf f.type)) = some y ∧ Rows.uptoBulk y.1 < M:=by
 obtain ⟨xs,n,-,rfl,hl,hlen,hf⟩:=DataW.trod_struct ht h
 refine ⟨hl,fun i f hi=>?_⟩
 have hi' : i < xs.length:=by rw [hlen];exact (Array.getElem?_eq_some_iff.1 hi).1
 have h1:=hf i f hi
 rw [List.getElem?_eq_getElem hi'] at h1
 refine ⟨n,xs[i],h1,?_⟩
 have h2:=bulks.part_le (d:=xs[i].1) (l:=xs.map (·.1)) (List.mem_map.2 ⟨_,List.getElem_mem hi',rfl⟩)
 simp only [Rows.uptoBulk] at hM
 omega
theorem str_open {t : TypeId} (ht : Tryz.prog.underlying t = some .string) {M : Nat} {fuel : Nat} {cs : List Value} {x : DataW H × List MemPlace}
 (h : DataW.trod enc Tryz.prog W 0 (fun _=>true) true fuel t cs = some x) (hM : Rows.uptoBulk x.1 ≤ M) : ∃ s : ByteArray,cs = [.string s] ∧ s.size < M:=by
 obtain ⟨s,rfl,rfl,-⟩:=DataW.trod_string ht h
 exact ⟨s,rfl,by simp only [Rows.uptoBulk,Array.length_toList] at hM;exact hM⟩
theorem int_open {t : TypeId} (ht : Tryz.prog.underlying t = some (.int .i64)) {fuel : Nat} {cs : List Value} {x : DataW H × List MemPlace}
 (h : DataW.trod enc Tryz.prog W 0 (fun _=>true) true fuel t cs = some x) : ∃ k : Int,cs = [.int .i64 k] ∧ -9223372036854775808 ≤ k ∧ k ≤ 9223372036854775807:=by
 obtain ⟨s,rfl,rfl,hw⟩:=DataW.trod_int ht h
 refine ⟨s,rfl,?_⟩
 simp only [Lit.wf,Bool.and_eq_true] at hw
 exact ⟨of_decide_eq_true hw.1,of_decide_eq_true hw.2⟩
theorem drop_one {cs : List Value} {i k j : Nat} {v : Value} (h : (cs.drop i).take k = [v]) (hk : k = 1) (hj : i + 1 = j) : cs.drop i = v :: cs.drop j:=by
 subst hk hj
 have h1:=List.take_append_drop 1 (cs.drop i)
 rw [h,List.drop_drop] at h1
 exact h1.symm
theorem drop_all {cs : List Value} {n k : Nat} (h : cs.length = k) (hk : k = n) : cs.drop n = []:=List.drop_eq_nil_of_le (by omega)
end
end Go.Proofs.YtahahafhendgoaaGreatDoor
namespace Go.Proofs.YtahahafhendgoaaGreatDoor
open Go.RowKit Go.ChangeShapes Go.WideShapes Go.Deep
set_option maxRecDepth 100000
def StrOk (s : ByteArray) : Prop:=s.size ≤ 1048576
def AttOk (a : Att) : Prop:=a.type.size ≤ 1048576 ∧ a.vals.length ≤ 1048576 ∧ ∀ v ∈ a.vals,v.size ≤ 1048576
def EntOk (e : Ent) : Prop:=e.name.size ≤ 1048576 ∧ e.atts.length ≤ 1048576 ∧ ∀ a ∈ e.atts,AttOk a
section
variable {H : Type} {enc : TypeId × Value → H} {W : World}
theorem cstr_open {M : Nat} (hM0 : M ≤ 1048576) {fuel : Nat} {cs : List Value} {x : DataW H × List MemPlace} (h : DataW.trod enc Tryz.prog W 0 (fun _=>true) true fuel 9 cs = some x) (hM : Rows.uptoBulk x.1 ≤ M) : ∃ s : ByteArray,Elem.str.R (fun _=>True) W cs s ∧ StrOk s:=by
 obtain ⟨s,e0,q0⟩:=str_open Tryz.underlying9 h hM
 exact ⟨s,e0,Nat.le_trans (Nat.le_of_lt q0) hM0⟩
theorem att_open {M : Nat} (hM0 : M ≤ 1048576) {fuel : Nat} {cs : List Value} {x : DataW H × List MemPlace} (h : DataW.trod enc Tryz.prog W 0 (fun _=>true) true fuel 53 cs = some x) (hM : Rows.uptoBulk x.1 ≤ M) : ∃ a : Att,Elem.att.R (fun _=>True) W cs a ∧ AttOk a:=by
 obtain ⟨hl,hf⟩:=agg_open Tryz.underlying53 h hM
 obtain ⟨m0,y0,h0,b0⟩:=hf 0 _ rfl
 obtain ⟨s,e0,q0⟩:=str_open Tryz.underlying9 h0 (Nat.le_of_lt b0)
 obtain ⟨m1,y1,h1,b1⟩:=hf 1 _ rfl
 obtain ⟨A,n,c,l,e1,r1,l1,q1⟩:=row_open Elem.str StrOk Tryz.underlying51 (by kernel_rfl) (fun n cs x hx hb=>cstr_open (M:=1048576) (Nat.le_refl _) hx (by omega)) h1 (Nat.le_of_lt b1)
 have hcs : cs.drop 0 = [.string s,.slice A n c]:=by rw [drop_one (i:=0) (j:=1) e0 (by kernel_rfl) rfl,drop_one (i:=1) (j:=2) e1 (by kernel_rfl) rfl,drop_all (n:=2) hl (by kernel_rfl)]
 rw [List.drop_zero] at hcs
 exact ⟨⟨s,l⟩,⟨A,n,c,hcs,r1⟩,Nat.le_trans (Nat.le_of_lt q0) hM0,Nat.le_trans l1 hM0,q1⟩
theorem ent_open {M : Nat} (hM0 : M ≤ 1048576) {fuel : Nat} {cs : List Value} {x : DataW H × List MemPlace} (h : DataW.trod enc Tryz.prog W 0 (fun _=>true) true fuel 48 cs = some x) (hM : Rows.uptoBulk x.1 ≤ M) : ∃ a : Ent,Elem.ent.R (fun _=>True) W cs a ∧ EntOk a:=by
 obtain ⟨hl,hf⟩:=agg_open Tryz.underlying48 h hM
 obtain ⟨m0,y0,h0,b0⟩:=hf 0 _ rfl
 obtain ⟨s,e0,q0⟩:=str_open Tryz.underlying9 h0 (Nat.le_of_lt b0)
 obtain ⟨m1,y1,h1,b1⟩:=hf 1 _ rfl
 obtain ⟨A,n,c,l,e1,r1,l1,q1⟩:=row_open Elem.att AttOk Tryz.underlying46 (by kernel_rfl) (fun n cs x hx hb=>att_open (M:=1048576) (Nat.le_refl _) hx (by omega)) h1 (Nat.le_of_lt b1)
 have hcs : cs.drop 0 = [.string s,.slice A n c]:=by rw [drop_one (i:=0) (j:=1) e0 (by kernel_rfl) rfl,drop_one (i:=1) (j:=2) e1 (by kernel_rfl) rfl,drop_all (n:=2) hl (by kernel_rfl)]
 rw [List.drop_zero] at hcs
 exact ⟨⟨s,l⟩,⟨A,n,c,hcs,r1⟩,Nat.le_trans (Nat.le_of_lt q0) hM0,Nat.le_trans l1 hM0,q1⟩
end
end Go.Proofs.YtahahafhendgoaaGreatDoor
namespace Go.Proofs.YtahahafhendgoaaGreatDoor
open Go.RowKit Go.ChangeShapes Go.WideShapes Go.Deep
set_option maxRecDepth 100000
def CutOk (c : CutR) : Prop:=c.name.size ≤ 1048576 ∧ -9223372036854775808 ≤ c.server ∧ c.server ≤ 9223372036854775807
section
variable {H : Type} {enc : TypeId × Value → H} {W : World}
theorem cut_open {M : Nat} (hM0 : M ≤ 1048576) {fuel : Nat} {cs : List Value} {x : DataW H × List MemPlace} (h : DataW.trod enc Tryz.prog W 0 (fun _=>true) true fuel 49 cs = some x) (hM : Rows.uptoBulk x.1 ≤ M) : ∃ a : CutR,Elem.cut.R (fun _=>True) W cs a ∧ CutOk a:=by
 obtain ⟨hl,hf⟩:=agg_open Tryz.underlying49 h hM
 obtain ⟨m0,y0,h0,b0⟩:=hf 0 _ rfl
 obtain ⟨s,e0,q0⟩:=str_open Tryz.underlying9 h0 (Nat.le_of_lt b0)
 obtain ⟨m1,y1,h1,b1⟩:=hf 1 _ rfl
 obtain ⟨k,e1,k1,k2⟩:=int_open Tryz.underlying3 h1
 have hcs : cs.drop 0 = [.string s,.int .i64 k]:=by rw [drop_one (i:=0) (j:=1) e0 (by kernel_rfl) rfl,drop_one (i:=1) (j:=2) e1 (by kernel_rfl) rfl,drop_all (n:=2) hl (by kernel_rfl)]
 rw [List.drop_zero] at hcs
 exact ⟨⟨s,k⟩,hcs,Nat.le_trans (Nat.le_of_lt q0) hM0,k1,k2⟩
end
end Go.Proofs.YtahahafhendgoaaGreatDoor
namespace Go.Proofs.YtahahafhendgoaaGreatDoor
open Go.RowKit
set_option maxRecDepth 100000
theorem cuts15_any {S : Nat → Prop} {A : Option Addr} {n c : Nat} {l : List CutR} {w : World} (h : Row Elem.cut S w A n c l) (hm : l.length ≤ 2000000) :
 Calls Tryz.prog 8 #[.slice A n c] w fun e w'=>∃ A' n' c',e = .returned (.slice A' n' c') ∧ Row Elem.cut (fun b=>w.heap.size ≤ b) w' A' n' c' l ∧ Ext w w':=by
 have HR:=hid h
 have HLN:=hid h.len
 have HM:=hid hm
 have hn : n ≤ 9223372036854775807:=by have:=h.cap;have:=h.most;simp only [maxLen] at this;omega
 clear h hm
 go_enter Tryz.func8,Tryz.ntmps8
 go_wp2
 go_loopw [3,7] (fun v i wr=>∃ j : Nat,j ≤ n ∧ i = .int .i64 j ∧ Hid (GrowR Elem.cut 41 none w wr v (l.take j))) (fun _ i _=>n - (intOf i).toNat)
 case atStart=>exact ⟨0,by omega,rfl,GrowR.nil (Ext.refl _) (fun g hg=>by cases hg)⟩
 case round=>
  obtain ⟨j,hj,rfl,HGR⟩:=hrel
  by_cases hlt : j < n
  ·obtain ⟨b1,o1,v1,x1,rfl,g1,-,r1,q1⟩:=(HR.out.ext HGR.out.ext).at_ hlt
   obtain ⟨nm1,sv1⟩:=x1
   cases r1
   have e10:=q1 0 _ rfl
   have e11:=q1 1 _ rfl
   simp only [Elem.cut,Nat.add_zero] at e10 e11
   have Hg:=hid g1
   clear q1 g1
   have HLT : Hid ((l.take j).length ≤ 4000000):=by show _ ≤ _;rw [List.length_take];have:=HLN.out;have:=HM.out;omega
   go_wp2_with (at_builtin;refine append_el Tryz.underlying27 infoCut rfl (by decide) rfl _ _ rfl _ _ rfl HGR.out (u:=[.string nm1,.int .i64 sv1]) ⟨nm1,sv1⟩ rfl (by intro c hc;simp at hc;rcases hc with rfl | rfl <;> rfl) rfl rfl HLT.out ?_;intro v' w3 hg3 _ _;have HG3:=hid hg3;clear hg3)
   exact ⟨⟨j + 1,by omega,by go_num,by (have e : l.take (j + 1) = l.take j ++ [⟨nm1,sv1⟩]:=by (rw [List.take_add_one,Hg.out];rfl));rw [e];exact HG3⟩,by simp [intOf];omega⟩
  ·obtain rfl : j = n:=by omega
   have hgr:=HGR.out
   rw [List.take_of_length_le (Nat.le_of_eq HLN.out.symm)] at hgr
   obtain ⟨A2,c2,rfl,hr2⟩:=hgr.row
   have HR2:=hid hr2
   have HX:=hid hgr.ext
   clear hgr hr2 HGR
   go_wp2
   go_ret
   exact ⟨A2,_,c2,rfl,HR2.out,HX.out⟩
end Go.Proofs.YtahahafhendgoaaGreatDoor
namespace Go.Proofs.YtahahafhendgoaaGreatDoor
theorem fits_of {l : List Ent} (h : ∀ e ∈ l,EntOk e) : ∀ e ∈ l,EntFits e:=fun e he=>by
 obtain ⟨h1,h2,h3⟩:=h e he
 refine ⟨by omega,by omega,by omega,fun a ha=>?_,fun a ha=>?_⟩
 ·obtain ⟨q1,q2,q3⟩:=h3 a ha
  omega
 ·obtain ⟨q1,q2,q3⟩:=h3 a ha
  omega
end Go.Proofs.YtahahafhendgoaaGreatDoor
namespace Go.Proofs.YtahahafhendgoaaGreatDoor
open Go.RowKit
set_option maxRecDepth 100000
theorem errStar : "*" ++ "errors.errorString" = "*errors.errorString" := by decide
theorem errRow (u : TypeId) (h : Tryz.prog.typeName? 3 u = some "*errors.errorString") : u = 260:=
 typeName_ptr_named (nm := "errors.errorString") (by rw [errStar];kernel_rfl) (by kernel_rfl) (by decide) u (by rw [errStar];exact h)
theorem pow_eq : (Rows.laid_internal_strconv_uint64pow10 : DataW Unit) = Lib.tabData .u64 Lib.pow10Tab:=by kernel_rfl
theorem gl_of_laid {W : World} (h : laidMetH Tryz.prog Rows.partKnowsUptoRow.laid W) (hs : W.ShapedOpen Tryz.prog) : Gl W:=by
 rw [MakeChecks.laidMetH_plain _ _ _ (by kernel_rfl)] at h
 have h2 : laidMet Tryz.prog (("internal/strconv.uint64pow10", Lib.tabData .u64 Lib.pow10Tab) :: Rows.partKnowsUptoRow.laid.drop 3) W:=by
  have:=h.tail.tail
  rw [← pow_eq]
  exact this
 have h4 : laidMet Tryz.prog (("strconv.ErrRange", .iface "*errors.errorString" (.ptr (.agg [.lit (.string [118,97,108,117,101,32,111,117,116,32,111,102,32,114,97,110,103,101])]))) :: Rows.partKnowsUptoRow.laid.drop 5) W:=h2.tail.tail
 have h5 : laidMet Tryz.prog (("strconv.ErrSyntax", .iface "*errors.errorString" (.ptr (.agg [.lit (.string [105,110,118,97,108,105,100,32,115,121,110,116,97,120])]))) :: Rows.partKnowsUptoRow.laid.drop 6) W:=h4.tail
 obtain ⟨a0,s0,hv0,-,-,-⟩:=laid_sentinel h4 gRng (by kernel_rfl) Tryz.underlying131 errRow Tryz.underlying260 Tryz.underlying262 rfl rfl Tryz.underlying9 (by kernel_rfl) (by kernel_rfl)
 obtain ⟨a1,s1,hv1,-,-,-⟩:=laid_sentinel h5 gSyn (by kernel_rfl) Tryz.underlying131 errRow Tryz.underlying260 Tryz.underlying262 rfl rfl Tryz.underlying9 (by kernel_rfl) (by kernel_rfl)
 refine ⟨?_,⟨_,_,hv1⟩,⟨_,_,hv0⟩,?_⟩
 ·exact cell_of_shapedOpen_int (t:=3) (k:=.i64) (zero:=#[.int .i64 0]) hs (of_decide_eq_true (by kernel_rfl)) (by kernel_rfl) rfl (by kernel_rfl) (by kernel_rfl) Tryz.underlying3
 ·exact Lib.tabIs_of_head gPow (by kernel_rfl) Tryz.underlying253 Tryz.underlying181 (by kernel_rfl) (by kernel_rfl) h2
theorem acc_eq : (Rows.laid_unicode_utf8_acceptRanges : DataW Unit) = Lib.acceptData:=by kernel_rfl
theorem ug_of_laid {W : World} (h : laidMetH Tryz.prog Rows.partKnowsUptoRow.laid W) : Ug W:=by
 rw [MakeChecks.laidMetH_plain _ _ _ (by kernel_rfl)] at h
 have h3 : Lib.VarReads Tryz.prog W "unicode/utf8.first" Lib.firstData:=by
  rw [← Pinned.utf8First_eq]
  exact Lib.laidMet.reads h (show (("unicode/utf8.first", Rows.laid_unicode_utf8_first) : String × DataW Unit) ∈ Rows.partKnowsUptoRow.laid from .tail _ (.tail _ (.tail _ (.tail _ (.tail _ (.tail _ (.head _)))))))
 have h4 : Lib.VarReads Tryz.prog W "unicode/utf8.acceptRanges" Lib.acceptData:=by
  rw [← acc_eq]
  exact Lib.laidMet.reads h (show (("unicode/utf8.acceptRanges", Rows.laid_unicode_utf8_acceptRanges) : String × DataW Unit) ∈ Rows.partKnowsUptoRow.laid from .tail _ (.tail _ (.tail _ (.head _))))
 exact utf8Tabs_of_reads Tryz.lays260 ⟨by kernel_rfl,by kernel_rfl,by kernel_rfl,by kernel_rfl,by kernel_rfl,by kernel_rfl,by kernel_rfl⟩ h3 h4
theorem gu_of_laid {W : World} (h : laidMetH Tryz.prog Rows.partKnowsUptoRow.laid W) (hs : W.ShapedOpen Tryz.prog) : Gu W:=⟨gl_of_laid h hs,ug_of_laid h⟩
theorem i64_wf {n : Int} (h : (Lit.int .i64 n).wf = true) : -9223372036854775808 ≤ n ∧ n ≤ 9223372036854775807:=by
 rw [show (Lit.int .i64 n).wf = (decide (IntKind.i64.min ≤ n) && decide (n ≤ IntKind.i64.max)) from rfl,Bool.and_eq_true,decide_eq_true_iff,decide_eq_true_iff] at h
 have e1 : IntKind.i64.min = -9223372036854775808:=by decide +kernel
 have e2 : IntKind.i64.max = 9223372036854775807:=by decide +kernel
 rw [e1,e2] at h
 exact h
end Go.Proofs.YtahahafhendgoaaGreatDoor
