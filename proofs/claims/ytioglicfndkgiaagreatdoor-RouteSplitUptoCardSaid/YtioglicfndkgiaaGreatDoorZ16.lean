/- Lemmas of the walk. -/
import Derived.Test.YtioglicfndkgiaaGreatDoorZ09
import Derived.Test.YtioglicfndkgiaaGreatDoorZ10
import Derived.Deep.DeepCutAuto
import Derived.Test.YtioglicfndkgiaaGreatDoorZ15
import Derived.Test.YtioglicfndkgiaaGreatDoorZ07
set_option maxHeartbeats 40000000
set_option linter.unusedVariables false
set_option linter.unusedSimpArgs false
namespace Go.Proofs.YtioglicfndkgiaaGreatDoor
open Go.RowKit
set_option maxRecDepth 100000
abbrev avaV (x:Ava):Value:=.agg #[.string (str x.type),.string (str x.val)]
theorem zjV (w:World) (g k:Nat) (x:Ava) (h0:w.cell? ⟨g,k * 2,none⟩=some (.string (str x.type))) (h1:w.cell? ⟨g,k * 2+1,none⟩=some (.string (str x.val))) :
 (Instr.loadAt 151 (.pointer (some ⟨g,k * 2,none⟩))).run Tryz.prog w=.ok (avaV x) w:=by
 go_simp
theorem zjR (w:World) (g k:Nat) (x:Ava) (c0 c1:Value) (h0:w.cell? ⟨g,k * 2,none⟩=some c0) (h1:w.cell? ⟨g,k * 2+1,none⟩=some c1) (f0:w.frozen? ⟨g,k * 2,none⟩=false) (f1:w.frozen? ⟨g,k * 2+1,none⟩=false) :
 (Instr.storeAt 151 (.pointer (some ⟨g,k * 2,none⟩)) (avaV x)).run Tryz.prog w=.ok () ((w.setCell ⟨g,k * 2,none⟩ (.string (str x.type))).setCell ⟨g,k * 2+1,none⟩ (.string (str x.val))):=by
 go_simp
section
variable {w w0:World} {o:Oper} {a:Act} {K:Act→World→Prop} {Q:Exit→Act→World→Prop} {g n cap:Nat} {l:List Ava}
theorem zbV (x:Operand) (ho:o.op=.load 151 x) (k:Nat) (hx:a.eval x=.pointer (some ⟨g,k * 2,none⟩)) (hG:GrowA 151 w0 w (.slice (some ⟨g,0,none⟩) n cap) l) (y:Ava) (hy:l[k]?=some y)
 (h:K (a.put o.dst (avaV y)) w):o.wp Tryz.prog a w K Q:=by
 have hr:(execOp a.eval o).run Tryz.prog w=.ok (.value (avaV y)) w:=by
  unfold execOp
  simp only [ho,hx,Sem.run_bind,zjV w g k y (hG.at0 hy) (hG.at1 hy),Result.andThen_ok,Sem.run_pure]
 unfold Oper.wp
 rw [hr]
 exact h
theorem zby (x y:Operand) (ho:o.op=.store 151 x y) (k:Nat) (hx:a.eval x=.pointer (some ⟨g,k * 2,none⟩)) (v:Ava) (hy:a.eval y=avaV v) (hG:GrowA 151 w0 w (.slice (some ⟨g,0,none⟩) n cap) l) (hk:k<l.length)
 (h:∀ w',GrowA 151 w0 w' (.slice (some ⟨g,0,none⟩) n cap) (l.set k v)→Below w0.heap.size w w'→K (a.put o.dst undef) w'):o.wp Tryz.prog a w K Q:=by
 have hl:l[k]?=some l[k]:=List.getElem?_eq_getElem hk
 have hr:(execOp a.eval o).run Tryz.prog w=.ok .skip ((w.setCell ⟨g,k * 2,none⟩ (.string (str v.type))).setCell ⟨g,k * 2+1,none⟩ (.string (str v.val))):=by
  unfold execOp
  simp only [ho,hx,hy,Sem.run_bind,zjR w g k v _ _ (hG.at0 hl) (hG.at1 hl) (hG.thaw _) (hG.thaw _),Result.andThen_ok,Sem.run_pure]
 unfold Oper.wp
 rw [hr]
 exact h _ (hG.put hk v) (((Below.refl _ _).setCell hG.new _).setCell hG.new _)
end
def cmpA (x y:Ava):Int:=Lib.compareBytes x.type y.type
theorem zrY (x y:Ava):(cmpA x y<0) ↔ ltB x.type y.type=true:=by
 unfold cmpA
 rcases zoZ x.type y.type with ⟨h1,h2⟩ | ⟨h1,h2⟩ | ⟨h1,h2⟩
 ·rw [h1,h2];simp
 ·rw [h1,h2,zbZ];simp
 ·rw [h1,zc2 _ _ h2];simp
theorem zex (x y:Ava) (w:World):Calls Tryz.prog 137 #[avaV x,avaV y] w fun e w'=>e=.returned (.int .i64 (cmpA x y))∧Ext w w':=by
 have HC:∀ w,Calls Tryz.prog 138 #[.string (str x.type),.string (str y.type)] w fun e w'=>e=.returned (.int .i64 (cmpA x y))∧w'=w:=fun w=>(Tryz.strings_Compare (str x.type) (str y.type) w)
 go_enter Tryz.func137,Tryz.ntmps137
 go_wp2_with (go_at_call 138;(with_reducible refine (HC _).mono ?_);rintro e w1 ⟨rfl,rfl⟩)
 go_ret
 exact ⟨rfl,(Ext.alloc _ _).trans (Ext.alloc _ _)⟩
def Sub (l l':List Ava):Prop:=l'.length=l.length∧∀ x∈l',x∈l
theorem Sub.refl (l:List Ava):Sub l l:=⟨rfl,fun _ h=>h⟩
theorem Sub.trans {a b c:List Ava} (h:Sub a b) (k:Sub b c):Sub a c:=⟨k.1.trans h.1,fun x hx=>h.2 x (k.2 x hx)⟩
theorem Sub.set {a b:List Ava} (h:Sub a b) (i:Nat) {x:Ava} (hx:x∈a):Sub a (b.set i x):=by
 refine ⟨by rw [List.length_set];exact h.1,fun y hy=>?_⟩
 rcases List.mem_or_eq_of_mem_set hy with h1 | h1
 ·exact h.2 y h1
 ·rw [h1];exact hx
def zj2 (l:List Ava) (i j:Nat):List Ava:=match l[i]?,l[j]? with | some x,some y=>(l.set i y).set j x | _,_=>l
theorem zgV {l:List Ava} {i j:Nat} {x y:Ava} (hi:l[i]?=some x) (hj:l[j]?=some y):zj2 l i j=(l.set i y).set j x:=by unfold zj2;rw [hi,hj]
theorem zen (l:List Ava) (i j:Nat):Sub l (zj2 l i j):=by
 unfold zj2
 split
 ·rename_i x y h1 h2
  exact ((Sub.refl l).set i (List.mem_of_getElem? h2)).set j (List.mem_of_getElem? h1)
 ·exact Sub.refl l
end Go.Proofs.YtioglicfndkgiaaGreatDoor
namespace Go.Proofs.YtioglicfndkgiaaGreatDoor
open Go.RowKit
set_option maxRecDepth 100000
abbrev cmpV:Value:=.func (.func 137) #[] #[]
def ltO (l:List Ava) (i j:Nat):Bool:=match l[i]?,l[j]? with | some x,some y=>ltB x.type y.type | _,_=>false
def zc9 (a:Nat):Nat→List Ava→List Ava
 | 0,l=>l
 | j+1,l=>if a<j+1∧ltO l (j+1) j=true then zc9 a j (zj2 l (j+1) j) else l
def insF (a:Nat):Nat→List Ava→List Ava
 | 0,l=>l
 | k+1,l=>zc9 a (a+k+1) (insF a k l)
theorem zkI (a:Nat):∀ (j:Nat) (l:List Ava),Sub l (zc9 a j l)
 | 0,l=>Sub.refl l
 | j+1,l=>by
  unfold zc9
  split
  ·exact (zen l _ _).trans (zkI a j _)
  ·exact Sub.refl l
theorem zfF (a:Nat):∀ (k:Nat) (l:List Ava),Sub l (insF a k l)
 | 0,l=>Sub.refl l
 | k+1,l=>(zfF a k l).trans (zkI a _ _)
theorem zgi {w0 w:World} {g n cap a b:Nat} {l:List Ava} (h:GrowA 151 w0 w (.slice (some ⟨g,0,none⟩) n cap) l) (hb:b≤n) (ha:a≤4000000) (hn:n≤4000000) :
 Calls Tryz.prog 179 #[.slice (some ⟨g,0,none⟩) n cap,.int .i64 a,.int .i64 b,cmpV] w fun e w'=>
  e=.returned (.tuple #[])∧GrowA 151 w0 w' (.slice (some ⟨g,0,none⟩) n cap) (insF a (b-(a+1)) l)∧Below w0.heap.size w w':=by
 have HG0:=hid h
 have HLN:=hid h.n_eq
 clear h
 go_enter Tryz.func179,Tryz.ntmps179
 go_wp2
 go_loopw [8] (fun i wr=>∃ (k:Nat),a+1+k≤max b (a+1)∧i=.int .i64 ((a+1+k:Nat):Int)∧Hid (GrowA 151 w0 wr (.slice (some ⟨g,0,none⟩) n cap) (insF a k l)∧Below w0.heap.size w wr)) (fun i _=>b-(intOf i).toNat)
 case atStart=>exact ⟨0,by omega,by go_num,HG0,Below.refl _ _⟩
 case round=>
  obtain ⟨k,hk,rfl,HGR⟩:=hrel
  by_cases hlt:a+1+k<b
  ·have hlt':((a+1+k:Nat):Int)<(b:Int):=by omega
   have hkn:a+1+k<n:=by omega
   clear hk
   generalize hik:a+1+k=i0 at *
   have HIK:=hid hik
   clear hik
   go_wp2
   go_loopw [9] (fun i wr'=>∃ (j:Nat) (m:List Ava),j≤i0∧a≤j∧i=.int .i64 j∧Hid (GrowA 151 w0 wr' (.slice (some ⟨g,0,none⟩) n cap) m∧Below w0.heap.size w wr')∧Hid (zc9 a j m=insF a (k+1) l)∧Hid (m.length=n)) (fun i _=>(intOf i).toNat)
   case atStart=>exact ⟨i0,insF a k l,by omega,by have:=HIK.out;omega,rfl,HGR,by show zc9 a i0 _=zc9 a (a+k+1) _;rw [← HIK.out];congr 1;omega,by show _=_;rw [(zfF a k l).1,HLN.out]⟩
   case round=>
    obtain ⟨j,m,hj,haj,rfl,HGM,HS,HML⟩:=hrel
    by_cases hja:a<j
    ·obtain ⟨q,hq⟩:∃ q,j=q+1:=⟨j-1,by omega⟩
     have hml:=HML.out
     obtain ⟨x,hx⟩:∃ x,m[j]?=some x:=⟨_,List.getElem?_eq_getElem (show j<m.length by omega)⟩
     obtain ⟨y,hy⟩:∃ y,m[q]?=some y:=⟨_,List.getElem?_eq_getElem (show q<m.length by omega)⟩
     have z0:(j:Int)-1=(q:Int):=by omega
     have z2:(j:Int)<(n:Int):=by omega
     have z3:(q:Int)<(n:Int):=by omega
     have hja':(a:Int)<(j:Int):=by omega
     have hqn:q<n:=by omega
     have HKA:Hid (j<m.length):=by show _<_;omega
     have HKB:Hid (q<m.length):=by show _<_;omega
     have HXA:=hid hx
     have HYB:=hid hy
     have x0:=HGM.out.1.at0 hx
     have x1:=HGM.out.1.at1 hx
     have y0:=HGM.out.1.at0 hy
     have y1:=HGM.out.1.at1 hy
     have HLT:=hid (zrY x y)
     have HSW:=hid (zgV hx hy)
     have HSN:Hid (zc9 a j m=if a<j∧ltB x.type y.type=true then zc9 a q (zj2 m j q) else m):=by
      show _=_
      rw [hq,zc9]
      rw [hq] at hx
      unfold ltO
      rw [hx,hy]
     have hql:q<j:=by omega
     have haq:a≤q:=by omega
     clear hx hy hml hq
     go_wp2
     refine zad (.read 0 (.read 1 (.read 2 (.read 3 (.read 4 (.read 5 (.read 6 (.read 7 (.read 8 (.read 9 (.read 10 (.read 11 (.read 12 (.read 13 (.main 14 (.read 15 (.read 16 .done))))))))))))))))) (by kernel_rfl) (by kernel_rfl) ?_
     intro wD hxD
     have XE:Hid (Ext wD wD):=Ext.refl _
     have HGE:=hid (HGM.out.1.later hxD)
     have px0:=zaa (zaa x0 _ hxD)
     have px1:=zaa (zaa x1 _ hxD)
     have py0:=zaa (zaa y0 _ hxD)
     have py1:=zaa (zaa y1 _ hxD)
     cases hlb:ltB x.type y.type with
     | false=>
      have hc:decide (cmpA x y<0)=false:=by rw [decide_eq_false_iff_not,HLT.out,hlb];decide
      have HFI:Hid (insF a (k+1) l=m):=by show _=_;rw [← HS.out,HSN.out,hlb,if_neg (by simp)]
      clear hlb
      repeat' (first
       | ((first | refine zah rfl rfl ?_ | refine zae rfl rfl ?_ | refine zak rfl rfl ?_);simp only [Act.put,Act.eval,evs])
       | (refine zab rfl rfl ?_;simp only [Act.put,evp])
       | (refine zag (v:=?_) rfl rfl (fun w' hE=>?_) ?_;rotate_left 1;(· ((try (have hEx:=Ext.trans (Hid.out XE) hE));go_simp;(try go_bits);with_reducible rfl));simp only [Act.put,evp])
       | (refine walks_alt ?_ ?_)
       | (refine zai rfl rfl (fun K hK=>?_);go_wp2_with ((go_at_call 137;(with_reducible refine (zex x y _).mono ?_);rintro e w2 ⟨rfl,hx2⟩;have XE':=hid (Ext.trans (Hid.out XE) hx2);clear XE;have XE:=XE';clear XE'));refine hK _ _ (by first | assumption | exact Ext.alloc _ _ | exact Ext.refl _) ?_;clear hK K;try simp only [Act.put,evp]))
      refine zaj ?_
      clear px0 px1 py0 py1 x0 x1 y0 y1
      go_wp2
      refine ⟨⟨k+1,by have:=HIK.out;omega,by have:=HIK.out;go_num,?_⟩,by have:=HIK.out;simp [intOf];omega⟩
      rw [HFI.out]
      exact ⟨HGE.out.later XE.out,Below.trans HGM.out.2 (Below.mono (hxD.trans XE.out) (zaD HGM.out.1.ext))⟩
     | true=>
      have hc:cmpA x y<0:=HLT.out.2 hlb
      have HFI:Hid (zc9 a q (zj2 m j q)=insF a (k+1) l):=by show _=_;rw [← HS.out,HSN.out,hlb,if_pos ⟨hja,rfl⟩]
      clear hlb
      repeat' (first
       | ((first | refine zah rfl rfl ?_ | refine zae rfl rfl ?_ | refine zak rfl rfl ?_);simp only [Act.put,Act.eval,evs])
       | (refine zab rfl rfl ?_;simp only [Act.put,evp])
       | (refine zag (v:=?_) rfl rfl (fun w' hE=>?_) ?_;rotate_left 1;(· ((try (have hEx:=Ext.trans (Hid.out XE) hE));go_simp;(try go_bits);with_reducible rfl));simp only [Act.put,evp])
       | (refine walks_alt ?_ ?_)
       | (refine zai rfl rfl (fun K hK=>?_);go_wp2_with ((go_at_call 137;(with_reducible refine (zex x y _).mono ?_);rintro e w2 ⟨rfl,hx2⟩;have XE':=hid (Ext.trans (Hid.out XE) hx2);clear XE;have XE:=XE';clear XE'));refine hK _ _ (by first | assumption | exact Ext.alloc _ _ | exact Ext.refl _) ?_;clear hK K;try simp only [Act.put,evp]))
      refine zaj ?_
      clear px0 px1 py0 py1 x0 x1 y0 y1
      have HGW:=hid (HGE.out.later XE.out)
      have HBW:Hid (Below w0.heap.size w w2):=Below.trans HGM.out.2 (Below.mono (hxD.trans XE.out) (zaD HGM.out.1.ext))
      clear hxD XE
      go_wp2
      refine zaq w0.heap.size (.read 0 (.read 1 (.read 2 (.read 3 (.read 4 (.read 5 (.read 6 (.read 7 (.read 8 (.read 10 (.read 11 (.read 12 (.alt 9 (.main 13 (.read 14 (.main 15 (.read 16 (.main 17 .done))))) (.main 13 (.main 9 (.read 14 (.main 15 (.read 16 (.main 17 .done))))))))))))))))))) (by kernel_rfl) (by kernel_rfl) ?_
      intro wD hxD
      have XB:Hid (Below w0.heap.size wD wD):=Below.refl _ _
      have HGD:=hid (HGW.out.later hxD)
      repeat' (first
       | ((first | refine zaI rfl rfl ?_ | refine zaw rfl rfl ?_ | refine walksB_skip rfl rfl ?_);simp only [Act.put,Act.eval,evs])
       | (refine walksB_unwanted rfl rfl ?_;simp only [Act.put,evp])
       | (refine zaC (v:=?_) rfl rfl (fun w' hE=>?_) ?_;rotate_left 1;(· ((try (have hEx:=Below.trans (Hid.out XB) hE));go_simp;(try go_bits);with_reducible rfl));simp only [Act.put,evp])
       | (refine zam rfl rfl (fun K hK=>?_);(first | (refine zbV _ rfl (j) rfl HGD.out x HXA.out ?_) | (refine zbV _ rfl (q) rfl HGD.out y HYB.out ?_) | (refine zby _ _ rfl (j) rfl y rfl HGD.out HKA.out ?_;intro w7 hg7 hb7;have HG7:=hid hg7;clear hg7;have XB':=hid (Below.trans (Hid.out XB) (hb7));clear XB;have XB:=XB';clear XB') | (refine zby _ _ rfl (q) rfl x rfl HG7.out (by rw [List.length_set];exact HKB.out) ?_;intro w8 hg8 hb8;have HG8:=hid hg8;clear hg8;have XB':=hid (Below.trans (Hid.out XB) (hb8));clear XB;have XB:=XB';clear XB'));refine hK _ _ (by first | assumption | exact Below.refl _ _ | exact Below.mono (Ext.alloc _ _) (Hid.out HSW) | exact Below.setCell (p:=⟨_,_,_⟩) (Below.refl _ _) (Nat.le_refl _) _) ?_;clear hK K;try simp only [Act.put,evp])
       | (refine zaQ ?_ ?_)
       | (refine zam rfl rfl (fun K hK=>?_);go_wp2_with (fail);refine hK _ _ (by first | assumption | exact Below.refl _ _ | exact Below.mono (Ext.alloc _ _) (Hid.out HSW) | exact Below.setCell (p:=⟨_,_,_⟩) (Below.refl _ _) (Nat.le_refl _) _) ?_;clear hK K;try simp only [Act.put,evp]))
      all_goals
       refine zaH ?_
       rw [← HSW.out] at HG8
       have HBX:=hid (Below.trans HBW.out (Below.trans (Below.mono hxD (zaD HGW.out.ext)) XB.out))
       go_wp2
       exact ⟨⟨q,_,by omega,haq,rfl,⟨HG8.out,HBX.out⟩,HFI,by show _=_;rw [(zen m j q).1];exact HML.out⟩,by simp [intOf];omega⟩
    ·obtain rfl:j=a:=by omega
     have hja':decide (((j:Nat):Int)<(j:Int))=false:=by rw [decide_eq_false_iff_not];omega
     have HFI:Hid (insF j (k+1) l=m):=by
      show _=_
      rw [← HS.out]
      cases j with
      | zero=>rfl
      | succ q=>rw [zc9,if_neg (by omega)]
     clear hja
     go_wp2
     refine zad (.read 0 (.read 1 (.read 2 (.read 3 (.read 4 (.read 5 (.read 6 (.read 7 (.read 8 (.read 9 (.read 10 (.read 11 (.read 12 (.read 13 (.main 14 (.read 15 (.read 16 .done))))))))))))))))) (by kernel_rfl) (by kernel_rfl) ?_
     intro wD hxD
     have XE:Hid (Ext wD wD):=Ext.refl _
     repeat' (first
      | ((first | refine zah rfl rfl ?_ | refine zae rfl rfl ?_ | refine zak rfl rfl ?_);simp only [Act.put,Act.eval,evs])
      | (refine zab rfl rfl ?_;simp only [Act.put,evp])
      | (refine zag (v:=?_) rfl rfl (fun w' hE=>?_) ?_;rotate_left 1;(· ((try (have hEx:=Ext.trans (Hid.out XE) hE));go_simp;(try go_bits);with_reducible rfl));simp only [Act.put,evp])
      | (refine walks_alt ?_ ?_)
      | (refine zai rfl rfl (fun K hK=>?_);go_wp2_with (fail);refine hK _ _ (by first | assumption | exact Ext.alloc _ _ | exact Ext.refl _) ?_;clear hK K;try simp only [Act.put,evp]))
     refine zaj ?_
     have HBX:=hid (Below.trans HGM.out.2 (Below.mono (hxD.trans XE.out) (zaD HGM.out.1.ext)))
     have HGE:=hid (HGM.out.1.later (hxD.trans XE.out))
     go_wp2
     refine ⟨⟨k+1,by have:=HIK.out;omega,by have:=HIK.out;go_num,?_⟩,by have:=HIK.out;simp [intOf];omega⟩
     rw [HFI.out]
     exact ⟨HGE.out,HBX.out⟩
  ·have hlt':¬ ((a+1+k:Nat):Int)<(b:Int):=by omega
   have HFI:Hid (b-(a+1)=k):=by show _=_;omega
   go_wp2
   go_end0
   rw [HFI.out]
   exact ⟨rfl,HGR.out⟩
def zgx (w0 w:World) (g n cap:Nat) (l:List Ava) (e:Ending) (w':World):Prop:=
 e=.returned (.tuple #[])∧(∃ l',GrowA 151 w0 w' (.slice (some ⟨g,0,none⟩) n cap) l'∧Sub l l')∧Below w0.heap.size w w'
theorem zdZ {w0 w:World} {g n cap a b c:Nat} {l:List Ava} (h:GrowA 151 w0 w (.slice (some ⟨g,0,none⟩) n cap) l) (ha:a+c≤n) (hb:b+c≤n) (hn:n≤4000000) :
 Calls Tryz.prog 226 #[.slice (some ⟨g,0,none⟩) n cap,.int .i64 a,.int .i64 b,.int .i64 c,cmpV] w (zgx w0 w g n cap l):=by
 have HG0:=hid h
 have HLN:=hid h.n_eq
 clear h
 go_enter Tryz.func226,Tryz.ntmps226
 go_wp2
 go_loopw [10] (fun i wr=>∃ (j:Nat) (m:List Ava),j≤c∧i=.int .i64 j∧Hid (GrowA 151 w0 wr (.slice (some ⟨g,0,none⟩) n cap) m∧Below w0.heap.size w wr)∧Hid (Sub l m)) (fun i _=>c-(intOf i).toNat)
 case atStart=>exact ⟨0,l,by omega,rfl,⟨HG0,Below.refl _ _⟩,Sub.refl l⟩
 case round=>
  obtain ⟨j,m,hj,rfl,HGM,HS⟩:=hrel
  by_cases hlt:j<c
  ·have hlt':(j:Int)<(c:Int):=by omega
   have hml:m.length=n:=by rw [HS.out.1,HLN.out]
   obtain ⟨p,hp⟩:∃ p,p=a+j:=⟨_,rfl⟩
   obtain ⟨q,hq⟩:∃ q,q=b+j:=⟨_,rfl⟩
   have z0:(a:Int)+(j:Int)=(p:Int):=by omega
   have z1:(b:Int)+(j:Int)=(q:Int):=by omega
   have hpn:p<n:=by omega
   have hqn:q<n:=by omega
   have z2:(p:Int)<(n:Int):=by omega
   have z3:(q:Int)<(n:Int):=by omega
   obtain ⟨x,hx⟩:∃ x,m[p]?=some x:=⟨_,List.getElem?_eq_getElem (show p<m.length by omega)⟩
   obtain ⟨y,hy⟩:∃ y,m[q]?=some y:=⟨_,List.getElem?_eq_getElem (show q<m.length by omega)⟩
   have HKA:Hid (p<m.length):=by show _<_;omega
   have HKB:Hid (q<m.length):=by show _<_;omega
   have HXA:=hid hx
   have HYB:=hid hy
   have HSW:=hid (zgV hx hy)
   have HS2:=hid (HS.out.trans (zen m p q))
   clear hx hy hml hp hq
   go_wp2
   refine zaq w0.heap.size (.read 0 (.read 1 (.read 2 (.read 3 (.read 4 (.read 5 (.read 6 (.read 7 (.read 8 (.read 9 (.read 10 (.read 11 (.read 12 (.read 14 (.read 15 (.read 16 (.read 17 (.read 18 (.alt 13 (.main 19 (.read 20 (.main 21 (.read 22 (.main 23 .done))))) (.main 19 (.main 13 (.read 20 (.main 21 (.read 22 (.main 23 .done))))))))))))))))))))))))) (by kernel_rfl) (by kernel_rfl) ?_
   intro wD hxD
   have XB:Hid (Below w0.heap.size wD wD):=Below.refl _ _
   have HGD:=hid (HGM.out.1.later hxD)
   repeat' (first
    | ((first | refine zaI rfl rfl ?_ | refine zaw rfl rfl ?_ | refine walksB_skip rfl rfl ?_);simp only [Act.put,Act.eval,evs])
    | (refine walksB_unwanted rfl rfl ?_;simp only [Act.put,evp])
    | (refine zaC (v:=?_) rfl rfl (fun w' hE=>?_) ?_;rotate_left 1;(· ((try (have hEx:=Below.trans (Hid.out XB) hE));go_simp;(try go_bits);with_reducible rfl));simp only [Act.put,evp])
    | (refine zam rfl rfl (fun K hK=>?_);(first | (refine zbV _ rfl (p) rfl HGD.out x HXA.out ?_) | (refine zbV _ rfl (q) rfl HGD.out y HYB.out ?_) | (refine zby _ _ rfl (p) rfl y rfl HGD.out HKA.out ?_;intro w7 hg7 hb7;have HG7:=hid hg7;clear hg7;have XB':=hid (Below.trans (Hid.out XB) (hb7));clear XB;have XB:=XB';clear XB') | (refine zby _ _ rfl (q) rfl x rfl HG7.out (by rw [List.length_set];exact HKB.out) ?_;intro w8 hg8 hb8;have HG8:=hid hg8;clear hg8;have XB':=hid (Below.trans (Hid.out XB) (hb8));clear XB;have XB:=XB';clear XB'));refine hK _ _ (by first | assumption | exact Below.refl _ _ | exact Below.mono (Ext.alloc _ _) (Hid.out HSW) | exact Below.setCell (p:=⟨_,_,_⟩) (Below.refl _ _) (Nat.le_refl _) _) ?_;clear hK K;try simp only [Act.put,evp])
    | (refine zaQ ?_ ?_)
    | (refine zam rfl rfl (fun K hK=>?_);go_wp2_with (fail);refine hK _ _ (by first | assumption | exact Below.refl _ _ | exact Below.mono (Ext.alloc _ _) (Hid.out HSW) | exact Below.setCell (p:=⟨_,_,_⟩) (Below.refl _ _) (Nat.le_refl _) _) ?_;clear hK K;try simp only [Act.put,evp]))
   all_goals
    refine zaH ?_
    rw [← HSW.out] at HG8
    have HBX:=hid (Below.trans HGM.out.2 (Below.trans (Below.mono hxD (zaD HGM.out.1.ext)) XB.out))
    go_wp2
    exact ⟨⟨j+1,_,by omega,by go_num,⟨HG8.out,HBX.out⟩,HS2⟩,by simp [intOf];omega⟩
  ·obtain rfl:j=c:=by omega
   go_wp2
   go_end0
   exact ⟨rfl,⟨m,HGM.out.1,HS.out⟩,HGM.out.2⟩
theorem zm6 {w0 w:World} {g n cap a m b:Nat} {l:List Ava} (h:GrowA 151 w0 w (.slice (some ⟨g,0,none⟩) n cap) l) (h1:a<m) (h2:m<b) (h3:b≤n) (hn:n≤4000000) :
 Calls Tryz.prog 207 #[.slice (some ⟨g,0,none⟩) n cap,.int .i64 a,.int .i64 m,.int .i64 b,cmpV] w (zgx w0 w g n cap l):=by
 have HG0:=hid h
 clear h
 go_enter Tryz.func207,Tryz.ntmps207
 go_wp2
 go_loopw [10,11] (fun u v wr=>∃ (i j:Nat) (k:List Ava),1≤i∧1≤j∧i≤m∧m+j≤n∧u=.int .i64 i∧v=.int .i64 j∧Hid (GrowA 151 w0 wr (.slice (some ⟨g,0,none⟩) n cap) k∧Below w0.heap.size w wr)∧Hid (Sub l k)) (fun u v _=>(intOf u).toNat+(intOf v).toNat)
 case atStart=>exact ⟨m-a,b-m,l,by omega,by omega,by omega,by omega,by go_num,by go_num,⟨HG0,Below.refl _ _⟩,Sub.refl l⟩
 case round=>
  obtain ⟨i,j,k,hi,hj,him,hjn,rfl,rfl,HGK,HS⟩:=hrel
  obtain ⟨p,hp⟩:∃ p,p=m-i:=⟨_,rfl⟩
  have z0:(m:Int)-(i:Int)=(p:Int):=by omega
  have hp1:p+i≤m:=by omega
  have hp2:m≤p+i:=by omega
  clear hp
  by_cases hij:i=j
  ·subst hij
   have t0:((i:Int) != (i:Int))=false:=by simp
   go_wp2_with (go_at_call 226;(with_reducible refine (zdZ (a:=p) (b:=m) (c:=i) HGK.out.1 (by omega) (by omega) hn).mono ?_);rintro e w3 ⟨rfl,⟨l3,hg3,hs3⟩,hb3⟩;have HG3:=hid hg3;have HS3:=hid hs3;have HB3:=hid hb3;clear hg3 hs3 hb3)
   go_end0
   exact ⟨rfl,⟨l3,HG3.out,HS.out.trans HS3.out⟩,Below.trans HGK.out.2 HB3.out⟩
  ·have t0:((i:Int) != (j:Int))=true:=by rw [bne_iff_ne];omega
   by_cases hgt:j<i
   ·have t1:(j:Int)<(i:Int):=by omega
    clear hij
    go_wp2_with (go_at_call 226;(with_reducible refine (zdZ (a:=p) (b:=m) (c:=j) HGK.out.1 (by omega) (by omega) hn).mono ?_);rintro e w3 ⟨rfl,⟨l3,hg3,hs3⟩,hb3⟩;have HG3:=hid hg3;have HS3:=hid hs3;have HB3:=hid hb3;clear hg3 hs3 hb3)
    exact ⟨⟨i-j,j,l3,by omega,by omega,by omega,by omega,by go_num,rfl,⟨HG3.out,Below.trans HGK.out.2 HB3.out⟩,HS.out.trans HS3.out⟩,by simp [intOf];omega⟩
   ·have t1:¬ (j:Int)<(i:Int):=by omega
    obtain ⟨q,hq⟩:∃ q,q=m+j-i:=⟨_,rfl⟩
    have z1:(m:Int)+(j:Int)-(i:Int)=(q:Int):=by omega
    have hq1:q+i≤m+j:=by omega
    have hq2:m+j≤q+i:=by omega
    clear hq
    go_wp2_with (go_at_call 226;(with_reducible refine (zdZ (a:=p) (b:=q) (c:=i) HGK.out.1 (by omega) (by omega) hn).mono ?_);rintro e w3 ⟨rfl,⟨l3,hg3,hs3⟩,hb3⟩;have HG3:=hid hg3;have HS3:=hid hs3;have HB3:=hid hb3;clear hg3 hs3 hb3)
    exact ⟨⟨i,j-i,l3,by omega,by omega,by omega,by omega,rfl,by go_num,⟨HG3.out,Below.trans HGK.out.2 HB3.out⟩,HS.out.trans HS3.out⟩,by simp [intOf];omega⟩
theorem zr3 {w0 w:World} {g n cap a m b:Nat} {l:List Ava} (h:GrowA 151 w0 w (.slice (some ⟨g,0,none⟩) n cap) l) (h1:a<m) (h2:m<b) (h3:b≤n) (hn:n≤4000000) (hma:m=a+1) :
 Calls Tryz.prog 180 #[.slice (some ⟨g,0,none⟩) n cap,.int .i64 a,.int .i64 m,.int .i64 b,cmpV] w (zgx w0 w g n cap l):=by
 have HG0:=hid h
 have HML:Hid (l.length=n):=by show _=_;rw [h.n_eq]
 clear h
 have t0:((m:Int)-(a:Int)==1)=true:=by rw [beq_iff_eq];omega
 have hm1:m≤a+1:=by omega
 clear hma
 go_enter Tryz.func180,Tryz.ntmps180
 go_wp2
 go_loopw [10,11] (fun u v wr=>∃ (i j:Nat),m≤i∧i≤j∧j≤b∧u=.int .i64 i∧v=.int .i64 j∧Hid (Ext w wr)) (fun u v _=>(intOf v).toNat-(intOf u).toNat)
 case atStart=>exact ⟨m,b,by omega,by omega,by omega,rfl,rfl,Ext.refl _⟩
 case round=>
  obtain ⟨i,j,hi,hij,hj,rfl,rfl,HX⟩:=hrel
  have HGM:=hid (HG0.out.later HX.out)
  by_cases hlt:i<j
  ·have hlt':(i:Int)<(j:Int):=by omega
   obtain ⟨q,hq⟩:∃ q,q=(i+j) / 2:=⟨_,rfl⟩
   have hq1:i≤q:=by omega
   have hq2:q<j:=by omega
   have zq:((i:Int)+(j:Int)) / 2=(q:Int):=by omega
   clear hq
   have hml:=HML.out
   obtain ⟨x,hx⟩:∃ x,l[q]?=some x:=⟨_,List.getElem?_eq_getElem (show q<l.length by omega)⟩
   obtain ⟨y,hy⟩:∃ y,l[a]?=some y:=⟨_,List.getElem?_eq_getElem (show a<l.length by omega)⟩
   have z2:(q:Int)<(n:Int):=by omega
   have z3:(a:Int)<(n:Int):=by omega
   have z4:q<n:=by omega
   have z5:a<n:=by omega
   have x0:=HGM.out.at0 hx
   have x1:=HGM.out.at1 hx
   have y0:=HGM.out.at0 hy
   have y1:=HGM.out.at1 hy
   clear hx hy hml
   cases hcb:decide (cmpA x y<0) with
   | false=>
    go_wp2
    refine zad (.read 0 (.read 1 (.read 2 (.read 3 (.read 4 (.read 5 (.read 6 (.read 7 (.read 8 (.main 9 (.read 10 .done))))))))))) (by kernel_rfl) (by kernel_rfl) ?_
    intro wD hxD
    have XE:Hid (Ext wD wD):=Ext.refl _
    have px0:=zaa (zaa x0 _ hxD)
    have px1:=zaa (zaa x1 _ hxD)
    have py0:=zaa (zaa y0 _ hxD)
    have py1:=zaa (zaa y1 _ hxD)
    repeat' (first
     | ((first | refine zah rfl rfl ?_ | refine zae rfl rfl ?_ | refine zak rfl rfl ?_);simp only [Act.put,Act.eval,evs])
     | (refine zab rfl rfl ?_;simp only [Act.put,evp])
     | (refine zag (v:=?_) rfl rfl (fun w' hE=>?_) ?_;rotate_left 1;(· ((try (have hEx:=Ext.trans (Hid.out XE) hE));go_simp;(try go_bits);with_reducible rfl));simp only [Act.put,evp])
     | (refine walks_alt ?_ ?_)
     | (refine zai rfl rfl (fun K hK=>?_);go_wp2_with ((go_at_call 137;(with_reducible refine (zex x y _).mono ?_);rintro e w2 ⟨rfl,hx2⟩;have XE':=hid (Ext.trans (Hid.out XE) hx2);clear XE;have XE:=XE';clear XE'));refine hK _ _ (by first | assumption | exact Ext.alloc _ _ | exact Ext.refl _) ?_;clear hK K;try simp only [Act.put,evp]))
    refine zaj ?_
    have HXW:=hid (hxD.trans XE.out)
    clear px0 px1 py0 py1 x0 x1 y0 y1
    go_wp2
    exact ⟨⟨i,q,by omega,by omega,by omega,rfl,rfl,HX.out.trans HXW.out⟩,by simp [intOf];omega⟩
   | true=>
    have hc:=of_decide_eq_true hcb
    clear hcb
    go_wp2
    refine zad (.read 0 (.read 1 (.read 2 (.read 3 (.read 4 (.read 5 (.read 6 (.read 7 (.read 8 (.main 9 (.read 10 .done))))))))))) (by kernel_rfl) (by kernel_rfl) ?_
    intro wD hxD
    have XE:Hid (Ext wD wD):=Ext.refl _
    have px0:=zaa (zaa x0 _ hxD)
    have px1:=zaa (zaa x1 _ hxD)
    have py0:=zaa (zaa y0 _ hxD)
    have py1:=zaa (zaa y1 _ hxD)
    repeat' (first
     | ((first | refine zah rfl rfl ?_ | refine zae rfl rfl ?_ | refine zak rfl rfl ?_);simp only [Act.put,Act.eval,evs])
     | (refine zab rfl rfl ?_;simp only [Act.put,evp])
     | (refine zag (v:=?_) rfl rfl (fun w' hE=>?_) ?_;rotate_left 1;(· ((try (have hEx:=Ext.trans (Hid.out XE) hE));go_simp;(try go_bits);with_reducible rfl));simp only [Act.put,evp])
     | (refine walks_alt ?_ ?_)
     | (refine zai rfl rfl (fun K hK=>?_);go_wp2_with ((go_at_call 137;(with_reducible refine (zex x y _).mono ?_);rintro e w2 ⟨rfl,hx2⟩;have XE':=hid (Ext.trans (Hid.out XE) hx2);clear XE;have XE:=XE';clear XE'));refine hK _ _ (by first | assumption | exact Ext.alloc _ _ | exact Ext.refl _) ?_;clear hK K;try simp only [Act.put,evp]))
    refine zaj ?_
    have HXW:=hid (hxD.trans XE.out)
    clear px0 px1 py0 py1 x0 x1 y0 y1
    go_wp2
    exact ⟨⟨q+1,j,by omega,by omega,by omega,by go_num,rfl,HX.out.trans HXW.out⟩,by simp [intOf];omega⟩
  ·have hlt':¬ (i:Int)<(j:Int):=by omega
   obtain ⟨i1,hi1⟩:∃ i1,i1=i-1:=⟨_,rfl⟩
   have zi:(i:Int)-1=(i1:Int):=by omega
   have hb1:a≤i1:=by omega
   have hb2:i1<n:=by omega
   clear hi1
   have HBR:Hid (Below w0.heap.size w wr):=Below.mono HX.out (zaD HG0.out.ext)
   go_wp2
   go_loopw [13] (fun u wq=>∃ (k:Nat) (m1:List Ava),a≤k∧k≤i1∧u=.int .i64 k∧Hid (GrowA 151 w0 wq (.slice (some ⟨g,0,none⟩) n cap) m1∧Below w0.heap.size w wq)∧Hid (Sub l m1)) (fun u _=>i1-(intOf u).toNat)
   case atStart=>exact ⟨a,l,by omega,by omega,rfl,⟨HGM.out,HBR.out⟩,Sub.refl l⟩
   case round=>
    obtain ⟨k,m1,hk1,hk2,rfl,HGK,HS⟩:=hrel
    by_cases hlt2:k<i1
    ·have hlt2':(k:Int)<(i1:Int):=by omega
     obtain ⟨k1,hk3⟩:∃ k1,k1=k+1:=⟨_,rfl⟩
     have zk:(k:Int)+1=(k1:Int):=by omega
     have hk4:k1≤i1:=by omega
     have hk5:k<k1:=by omega
     have HM1:Hid (m1.length=n):=by show _=_;rw [HS.out.1];exact HML.out
     clear HML
     have HML:=HM1
     have hml:=HML.out
     obtain ⟨x,hx⟩:∃ x,m1[k]?=some x:=⟨_,List.getElem?_eq_getElem (show k<m1.length by omega)⟩
     obtain ⟨y,hy⟩:∃ y,m1[k1]?=some y:=⟨_,List.getElem?_eq_getElem (show k1<m1.length by omega)⟩
     have z2:(k:Int)<(n:Int):=by omega
     have z3:(k1:Int)<(n:Int):=by omega
     have z4:k<n:=by omega
     have z5:k1<n:=by omega
     have HKA:Hid (k<m1.length):=by show _<_;omega
     have HKB:Hid (k1<m1.length):=by show _<_;omega
     have HXA:=hid hx
     have HYB:=hid hy
     have HSW:=hid (zgV hx hy)
     have HS2:=hid (HS.out.trans (zen m1 k k1))
     clear hx hy hml
     clear hk3
     go_wp2
     refine zaq w0.heap.size (.read 0 (.read 1 (.read 2 (.read 3 (.read 4 (.read 5 (.read 6 (.read 7 (.read 8 (.read 10 (.read 11 (.read 12 (.alt 9 (.main 13 (.read 14 (.main 15 (.read 16 (.main 17 .done))))) (.main 13 (.main 9 (.read 14 (.main 15 (.read 16 (.main 17 .done))))))))))))))))))) (by kernel_rfl) (by kernel_rfl) ?_
     intro wD hxD
     have XB:Hid (Below w0.heap.size wD wD):=Below.refl _ _
     have HGD:=hid (HGK.out.1.later hxD)
     repeat' (first
      | ((first | refine zaI rfl rfl ?_ | refine zaw rfl rfl ?_ | refine walksB_skip rfl rfl ?_);simp only [Act.put,Act.eval,evs])
      | (refine walksB_unwanted rfl rfl ?_;simp only [Act.put,evp])
      | (refine zaC (v:=?_) rfl rfl (fun w' hE=>?_) ?_;rotate_left 1;(· ((try (have hEx:=Below.trans (Hid.out XB) hE));go_simp;(try go_bits);with_reducible rfl));simp only [Act.put,evp])
      | (refine zam rfl rfl (fun K hK=>?_);(first | (refine zbV _ rfl (k) rfl HGD.out x HXA.out ?_) | (refine zbV _ rfl (k1) rfl HGD.out y HYB.out ?_) | (refine zby _ _ rfl (k) rfl y rfl HGD.out HKA.out ?_;intro w7 hg7 hb7;have HG7:=hid hg7;clear hg7;have XB':=hid (Below.trans (Hid.out XB) (hb7));clear XB;have XB:=XB';clear XB') | (refine zby _ _ rfl (k1) rfl x rfl HG7.out (by rw [List.length_set];exact HKB.out) ?_;intro w8 hg8 hb8;have HG8:=hid hg8;clear hg8;have XB':=hid (Below.trans (Hid.out XB) (hb8));clear XB;have XB:=XB';clear XB'));refine hK _ _ (by first | assumption | exact Below.refl _ _ | exact Below.mono (Ext.alloc _ _) (Hid.out HSW) | exact Below.setCell (p:=⟨_,_,_⟩) (Below.refl _ _) (Nat.le_refl _) _) ?_;clear hK K;try simp only [Act.put,evp])
      | (refine zaQ ?_ ?_)
      | (refine zam rfl rfl (fun K hK=>?_);go_wp2_with (fail);refine hK _ _ (by first | assumption | exact Below.refl _ _ | exact Below.mono (Ext.alloc _ _) (Hid.out HSW) | exact Below.setCell (p:=⟨_,_,_⟩) (Below.refl _ _) (Nat.le_refl _) _) ?_;clear hK K;try simp only [Act.put,evp]))
     all_goals
      refine zaH ?_
      rw [← HSW.out] at HG8
      have HBX:=hid (Below.trans HGK.out.2 (Below.trans (Below.mono hxD (zaD HGK.out.1.ext)) XB.out))
      go_wp2
      exact ⟨⟨k1,_,by omega,by omega,rfl,⟨HG8.out,HBX.out⟩,HS2⟩,by simp [intOf];omega⟩
    ·have hlt2':¬ (k:Int)<(i1:Int):=by omega
     go_wp2
     (try simp only [Exit.inBlock,Exit.then])
     refine bodyPost_ret (results_none rfl _ _ _) rfl ?_
     exact ⟨rfl,⟨m1,HGK.out.1,HS.out⟩,HGK.out.2⟩
theorem zr8 {w0 w:World} {g n cap a m b:Nat} {l:List Ava} (h:GrowA 151 w0 w (.slice (some ⟨g,0,none⟩) n cap) l) (h1:a<m) (h2:m<b) (h3:b≤n) (hn:n≤4000000) (hma:¬ m=a+1) (hbm:b=m+1) :
 Calls Tryz.prog 180 #[.slice (some ⟨g,0,none⟩) n cap,.int .i64 a,.int .i64 m,.int .i64 b,cmpV] w (zgx w0 w g n cap l):=by
 have HG0:=hid h
 have HML:Hid (l.length=n):=by show _=_;rw [h.n_eq]
 clear h
 have t0:((m:Int)-(a:Int)==1)=false:=by rw [beq_eq_false_iff_ne];omega
 have t1:((b:Int)-(m:Int)==1)=true:=by rw [beq_iff_eq];omega
 have hbm1:b≤m+1:=by omega
 have hmn:m<n:=by omega
 have hmn':(m:Int)<(n:Int):=by omega
 clear hma hbm
 go_enter Tryz.func180,Tryz.ntmps180
 go_wp2
 go_loopw [14,15] (fun u v wr=>∃ (i j:Nat),a≤i∧i≤j∧j≤m∧u=.int .i64 i∧v=.int .i64 j∧Hid (Ext w wr)) (fun u v _=>(intOf v).toNat-(intOf u).toNat)
 case atStart=>exact ⟨a,m,by omega,by omega,by omega,rfl,rfl,Ext.refl _⟩
 case round=>
  obtain ⟨i,j,hi,hij,hj,rfl,rfl,HX⟩:=hrel
  have HGM:=hid (HG0.out.later HX.out)
  by_cases hlt:i<j
  ·have hlt':(i:Int)<(j:Int):=by omega
   obtain ⟨q,hq⟩:∃ q,q=(i+j) / 2:=⟨_,rfl⟩
   have hq1:i≤q:=by omega
   have hq2:q<j:=by omega
   have zq:((i:Int)+(j:Int)) / 2=(q:Int):=by omega
   clear hq
   have hml:=HML.out
   obtain ⟨x,hx⟩:∃ x,l[m]?=some x:=⟨_,List.getElem?_eq_getElem (show m<l.length by omega)⟩
   obtain ⟨y,hy⟩:∃ y,l[q]?=some y:=⟨_,List.getElem?_eq_getElem (show q<l.length by omega)⟩
   have z2:(m:Int)<(n:Int):=by omega
   have z3:(q:Int)<(n:Int):=by omega
   have z4:m<n:=by omega
   have z5:q<n:=by omega
   have x0:=HGM.out.at0 hx
   have x1:=HGM.out.at1 hx
   have y0:=HGM.out.at0 hy
   have y1:=HGM.out.at1 hy
   clear hx hy hml
   cases hcb:decide (cmpA x y<0) with
   | false=>
    go_wp2
    refine zad (.read 0 (.read 1 (.read 2 (.read 3 (.read 4 (.read 5 (.read 6 (.read 7 (.read 8 (.main 9 (.read 10 (.read 11 .done)))))))))))) (by kernel_rfl) (by kernel_rfl) ?_
    intro wD hxD
    have XE:Hid (Ext wD wD):=Ext.refl _
    have px0:=zaa (zaa x0 _ hxD)
    have px1:=zaa (zaa x1 _ hxD)
    have py0:=zaa (zaa y0 _ hxD)
    have py1:=zaa (zaa y1 _ hxD)
    repeat' (first
     | ((first | refine zah rfl rfl ?_ | refine zae rfl rfl ?_ | refine zak rfl rfl ?_);simp only [Act.put,Act.eval,evs])
     | (refine zab rfl rfl ?_;simp only [Act.put,evp])
     | (refine zag (v:=?_) rfl rfl (fun w' hE=>?_) ?_;rotate_left 1;(· ((try (have hEx:=Ext.trans (Hid.out XE) hE));go_simp;(try go_bits);with_reducible rfl));simp only [Act.put,evp])
     | (refine walks_alt ?_ ?_)
     | (refine zai rfl rfl (fun K hK=>?_);go_wp2_with ((go_at_call 137;(with_reducible refine (zex x y _).mono ?_);rintro e w2 ⟨rfl,hx2⟩;have XE':=hid (Ext.trans (Hid.out XE) hx2);clear XE;have XE:=XE';clear XE'));refine hK _ _ (by first | assumption | exact Ext.alloc _ _ | exact Ext.refl _) ?_;clear hK K;try simp only [Act.put,evp]))
    refine zaj ?_
    have HXW:=hid (hxD.trans XE.out)
    clear px0 px1 py0 py1 x0 x1 y0 y1
    go_wp2
    exact ⟨⟨q+1,j,by omega,by omega,by omega,by go_num,rfl,HX.out.trans HXW.out⟩,by simp [intOf];omega⟩
   | true=>
    have hc:=of_decide_eq_true hcb
    clear hcb
    go_wp2
    refine zad (.read 0 (.read 1 (.read 2 (.read 3 (.read 4 (.read 5 (.read 6 (.read 7 (.read 8 (.main 9 (.read 10 (.read 11 .done)))))))))))) (by kernel_rfl) (by kernel_rfl) ?_
    intro wD hxD
    have XE:Hid (Ext wD wD):=Ext.refl _
    have px0:=zaa (zaa x0 _ hxD)
    have px1:=zaa (zaa x1 _ hxD)
    have py0:=zaa (zaa y0 _ hxD)
    have py1:=zaa (zaa y1 _ hxD)
    repeat' (first
     | ((first | refine zah rfl rfl ?_ | refine zae rfl rfl ?_ | refine zak rfl rfl ?_);simp only [Act.put,Act.eval,evs])
     | (refine zab rfl rfl ?_;simp only [Act.put,evp])
     | (refine zag (v:=?_) rfl rfl (fun w' hE=>?_) ?_;rotate_left 1;(· ((try (have hEx:=Ext.trans (Hid.out XE) hE));go_simp;(try go_bits);with_reducible rfl));simp only [Act.put,evp])
     | (refine walks_alt ?_ ?_)
     | (refine zai rfl rfl (fun K hK=>?_);go_wp2_with ((go_at_call 137;(with_reducible refine (zex x y _).mono ?_);rintro e w2 ⟨rfl,hx2⟩;have XE':=hid (Ext.trans (Hid.out XE) hx2);clear XE;have XE:=XE';clear XE'));refine hK _ _ (by first | assumption | exact Ext.alloc _ _ | exact Ext.refl _) ?_;clear hK K;try simp only [Act.put,evp]))
    refine zaj ?_
    have HXW:=hid (hxD.trans XE.out)
    clear px0 px1 py0 py1 x0 x1 y0 y1
    go_wp2
    exact ⟨⟨i,q,by omega,by omega,by omega,rfl,rfl,HX.out.trans HXW.out⟩,by simp [intOf];omega⟩
  ·have hlt':¬ (i:Int)<(j:Int):=by omega
   have HBR:Hid (Below w0.heap.size w wr):=Below.mono HX.out (zaD HG0.out.ext)
   go_wp2
   go_loopw [17] (fun u wq=>∃ (k:Nat) (m1:List Ava),i≤k∧k≤m∧u=.int .i64 k∧Hid (GrowA 151 w0 wq (.slice (some ⟨g,0,none⟩) n cap) m1∧Below w0.heap.size w wq)∧Hid (Sub l m1)) (fun u _=>(intOf u).toNat)
   case atStart=>exact ⟨m,l,by omega,by omega,rfl,⟨HGM.out,HBR.out⟩,Sub.refl l⟩
   case round=>
    obtain ⟨k,m1,hk1,hk2,rfl,HGK,HS⟩:=hrel
    by_cases hlt2:i<k
    ·have hlt2':(i:Int)<(k:Int):=by omega
     obtain ⟨k1,hk3⟩:∃ k1,k1=k-1:=⟨_,rfl⟩
     have zk:(k:Int)-1=(k1:Int):=by omega
     have hk4:k1<k:=by omega
     have hk5:i≤k1:=by omega
     have HM1:Hid (m1.length=n):=by show _=_;rw [HS.out.1];exact HML.out
     clear HML
     have HML:=HM1
     have hml:=HML.out
     obtain ⟨x,hx⟩:∃ x,m1[k]?=some x:=⟨_,List.getElem?_eq_getElem (show k<m1.length by omega)⟩
     obtain ⟨y,hy⟩:∃ y,m1[k1]?=some y:=⟨_,List.getElem?_eq_getElem (show k1<m1.length by omega)⟩
     have z2:(k:Int)<(n:Int):=by omega
     have z3:(k1:Int)<(n:Int):=by omega
     have z4:k<n:=by omega
     have z5:k1<n:=by omega
     have HKA:Hid (k<m1.length):=by show _<_;omega
     have HKB:Hid (k1<m1.length):=by show _<_;omega
     have HXA:=hid hx
     have HYB:=hid hy
     have HSW:=hid (zgV hx hy)
     have HS2:=hid (HS.out.trans (zen m1 k k1))
     clear hx hy hml
     clear hk3
     go_wp2
     refine zaq w0.heap.size (.read 0 (.read 1 (.read 2 (.read 3 (.read 4 (.read 5 (.read 6 (.read 7 (.read 8 (.read 10 (.read 11 (.read 12 (.alt 9 (.main 13 (.read 14 (.main 15 (.read 16 (.main 17 .done))))) (.main 13 (.main 9 (.read 14 (.main 15 (.read 16 (.main 17 .done))))))))))))))))))) (by kernel_rfl) (by kernel_rfl) ?_
     intro wD hxD
     have XB:Hid (Below w0.heap.size wD wD):=Below.refl _ _
     have HGD:=hid (HGK.out.1.later hxD)
     repeat' (first
      | ((first | refine zaI rfl rfl ?_ | refine zaw rfl rfl ?_ | refine walksB_skip rfl rfl ?_);simp only [Act.put,Act.eval,evs])
      | (refine walksB_unwanted rfl rfl ?_;simp only [Act.put,evp])
      | (refine zaC (v:=?_) rfl rfl (fun w' hE=>?_) ?_;rotate_left 1;(· ((try (have hEx:=Below.trans (Hid.out XB) hE));go_simp;(try go_bits);with_reducible rfl));simp only [Act.put,evp])
      | (refine zam rfl rfl (fun K hK=>?_);(first | (refine zbV _ rfl (k) rfl HGD.out x HXA.out ?_) | (refine zbV _ rfl (k1) rfl HGD.out y HYB.out ?_) | (refine zby _ _ rfl (k) rfl y rfl HGD.out HKA.out ?_;intro w7 hg7 hb7;have HG7:=hid hg7;clear hg7;have XB':=hid (Below.trans (Hid.out XB) (hb7));clear XB;have XB:=XB';clear XB') | (refine zby _ _ rfl (k1) rfl x rfl HG7.out (by rw [List.length_set];exact HKB.out) ?_;intro w8 hg8 hb8;have HG8:=hid hg8;clear hg8;have XB':=hid (Below.trans (Hid.out XB) (hb8));clear XB;have XB:=XB';clear XB'));refine hK _ _ (by first | assumption | exact Below.refl _ _ | exact Below.mono (Ext.alloc _ _) (Hid.out HSW) | exact Below.setCell (p:=⟨_,_,_⟩) (Below.refl _ _) (Nat.le_refl _) _) ?_;clear hK K;try simp only [Act.put,evp])
      | (refine zaQ ?_ ?_)
      | (refine zam rfl rfl (fun K hK=>?_);go_wp2_with (fail);refine hK _ _ (by first | assumption | exact Below.refl _ _ | exact Below.mono (Ext.alloc _ _) (Hid.out HSW) | exact Below.setCell (p:=⟨_,_,_⟩) (Below.refl _ _) (Nat.le_refl _) _) ?_;clear hK K;try simp only [Act.put,evp]))
     all_goals
      refine zaH ?_
      rw [← HSW.out] at HG8
      have HBX:=hid (Below.trans HGK.out.2 (Below.trans (Below.mono hxD (zaD HGK.out.1.ext)) XB.out))
      go_wp2
      exact ⟨⟨k1,_,by omega,by omega,rfl,⟨HG8.out,HBX.out⟩,HS2⟩,by simp [intOf];omega⟩
    ·have hlt2':¬ (i:Int)<(k:Int):=by omega
     go_wp2
     (try simp only [Exit.inBlock,Exit.then])
     refine bodyPost_ret (results_none rfl _ _ _) rfl ?_
     exact ⟨rfl,⟨m1,HGK.out.1,HS.out⟩,HGK.out.2⟩
def zjO (d:Nat):Prop:=∀ (w0 w:World) (g n cap a m b:Nat) (l:List Ava),b-a≤d→GrowA 151 w0 w (.slice (some ⟨g,0,none⟩) n cap) l→a<m→m<b→b≤n→n≤4000000 →
 Calls Tryz.prog 180 #[.slice (some ⟨g,0,none⟩) n cap,.int .i64 a,.int .i64 m,.int .i64 b,cmpV] w (zgx w0 w g n cap l)
theorem zqE (d:Nat) (IH:Hid (zjO d)) {w0 w:World} {g n cap a m b:Nat} {l:List Ava} (h:GrowA 151 w0 w (.slice (some ⟨g,0,none⟩) n cap) l) (h1:a<m) (h2:m<b) (h3:b≤n) (hn:n≤4000000) (hd:b-a≤d+1) (hma:¬ m=a+1) (hbm:¬ b=m+1) :
 Calls Tryz.prog 180 #[.slice (some ⟨g,0,none⟩) n cap,.int .i64 a,.int .i64 m,.int .i64 b,cmpV] w (zgx w0 w g n cap l):=by
 have HIH:=IH.out
 unfold zjO at HIH
 clear IH
 have HG0:=hid h
 have HML:Hid (l.length=n):=by show _=_;rw [h.n_eq]
 clear h
 have t0:((m:Int)-(a:Int)==1)=false:=by rw [beq_eq_false_iff_ne];omega
 have t1:((b:Int)-(m:Int)==1)=false:=by rw [beq_eq_false_iff_ne];omega
 obtain ⟨md,hmd⟩:∃ md,md=(a+b) / 2:=⟨_,rfl⟩
 have zmd:((a:Int)+(b:Int)) / 2=(md:Int):=by omega
 have hmd1:2 * md≤a+b:=by omega
 have hmd2:a+b≤2 * md+1:=by omega
 have hma1:a+2≤m:=by omega
 have hmb1:m+2≤b:=by omega
 clear hmd hma hbm
 obtain ⟨nn,hnn⟩:∃ nn,nn=md+m:=⟨_,rfl⟩
 obtain ⟨pp,hpp⟩:∃ pp,pp=md+m-1:=⟨_,rfl⟩
 have zn:(md:Int)+(m:Int)=(nn:Int):=by omega
 have zp:(nn:Int)-1=(pp:Int):=by omega
 have hn1:nn≤md+m:=by omega
 have hn2:md+m≤nn:=by omega
 have hp1:pp+1≤nn:=by omega
 have hp2:nn≤pp+1:=by omega
 clear hnn hpp
 go_enter Tryz.func180,Tryz.ntmps180
 go_upto_if 140 with fail
 go_cut [20,21] (fun u v wx=>∃ s r:Nat,u=.int .i64 s∧v=.int .i64 r∧Hid (Ext w wx)∧a≤s∧s≤r∧r≤m∧r≤md∧md+m≤s+b)
 case first=>
  by_cases hmm:md<m
  ·have t2:decide ((md:Int)<(m:Int))=true:=by rw [decide_eq_true_eq];omega
   have t3:decide (md<m)=true:=by rw [decide_eq_true_eq];omega
   go_wp2
   go_meet
   exact ⟨md+m-b,md,by go_num,rfl,Ext.refl _,by omega,by omega,by omega,by omega,by omega⟩
  ·have t2:decide ((md:Int)<(m:Int))=false:=by rw [decide_eq_false_iff_not];omega
   have t3:decide (md<m)=false:=by rw [decide_eq_false_iff_not];omega
   go_wp2
   go_meet
   exact ⟨a,m,rfl,rfl,Ext.refl _,by omega,by omega,by omega,by omega,by omega⟩
 case rest=>
  obtain ⟨s0,r0,rfl,rfl,HXC,hs1,hs2,hs3,hs4,hs5⟩:=hcut
  go_wp2
  go_loopw [20,21] (fun u v wr=>∃ (s r:Nat),a≤s∧s≤r∧r≤m∧r≤md∧md+m≤s+b∧u=.int .i64 s∧v=.int .i64 r∧Hid (Ext w wr)) (fun u v _=>(intOf v).toNat-(intOf u).toNat)
  case atStart=>exact ⟨s0,r0,by omega,by omega,by omega,by omega,by omega,rfl,rfl,HXC.out⟩
  case round=>
   clear hs1 hs2 hs3 hs4 hs5
   obtain ⟨s,r,hs1,hs2,hs3,hs4,hs5,rfl,rfl,HX⟩:=hrel
   have HGM:=hid (HG0.out.later HX.out)
   by_cases hlt:s<r
   ·have hlt':(s:Int)<(r:Int):=by omega
    obtain ⟨q,hq⟩:∃ q,q=(s+r) / 2:=⟨_,rfl⟩
    have hq1:s≤q:=by omega
    have hq2:q<r:=by omega
    have zq:((s:Int)+(r:Int)) / 2=(q:Int):=by omega
    obtain ⟨t,ht⟩:∃ t,t=pp-q:=⟨_,rfl⟩
    have zt:(pp:Int)-(q:Int)=(t:Int):=by omega
    have ht1:t<n:=by omega
    have hq3:q<n:=by omega
    clear hq ht HIH
    have hml:=HML.out
    obtain ⟨x,hx⟩:∃ x,l[t]?=some x:=⟨_,List.getElem?_eq_getElem (show t<l.length by omega)⟩
    obtain ⟨y,hy⟩:∃ y,l[q]?=some y:=⟨_,List.getElem?_eq_getElem (show q<l.length by omega)⟩
    have z2:(t:Int)<(n:Int):=by omega
    have z3:(q:Int)<(n:Int):=by omega
    have z4:t<n:=by omega
    have z5:q<n:=by omega
    have x0:=HGM.out.at0 hx
    have x1:=HGM.out.at1 hx
    have y0:=HGM.out.at0 hy
    have y1:=HGM.out.at1 hy
    clear hx hy hml
    cases hcb:decide (cmpA x y<0) with
    | false=>
     go_wp2
     refine zad (.read 0 (.read 1 (.read 2 (.read 3 (.read 4 (.read 5 (.read 6 (.read 7 (.read 8 (.read 9 (.read 10 (.main 11 (.read 12 (.read 13 .done)))))))))))))) (by kernel_rfl) (by kernel_rfl) ?_
     intro wD hxD
     have XE:Hid (Ext wD wD):=Ext.refl _
     have px0:=zaa (zaa x0 _ hxD)
     have px1:=zaa (zaa x1 _ hxD)
     have py0:=zaa (zaa y0 _ hxD)
     have py1:=zaa (zaa y1 _ hxD)
     repeat' (first
      | ((first | refine zah rfl rfl ?_ | refine zae rfl rfl ?_ | refine zak rfl rfl ?_);simp only [Act.put,Act.eval,evs])
      | (refine zab rfl rfl ?_;simp only [Act.put,evp])
      | (refine zag (v:=?_) rfl rfl (fun w' hE=>?_) ?_;rotate_left 1;(· ((try (have hEx:=Ext.trans (Hid.out XE) hE));go_simp;(try go_bits);with_reducible rfl));simp only [Act.put,evp])
      | (refine walks_alt ?_ ?_)
      | (refine zai rfl rfl (fun K hK=>?_);go_wp2_with ((go_at_call 137;(with_reducible refine (zex x y _).mono ?_);rintro e w2 ⟨rfl,hx2⟩;have XE':=hid (Ext.trans (Hid.out XE) hx2);clear XE;have XE:=XE';clear XE'));refine hK _ _ (by first | assumption | exact Ext.alloc _ _ | exact Ext.refl _) ?_;clear hK K;try simp only [Act.put,evp]))
     refine zaj ?_
     have HXW:=hid (hxD.trans XE.out)
     clear px0 px1 py0 py1 x0 x1 y0 y1
     go_wp2
     exact ⟨⟨q+1,r,by omega,by omega,by omega,by omega,by omega,by go_num,rfl,HX.out.trans HXW.out⟩,by simp [intOf];omega⟩
    | true=>
     have hc:=of_decide_eq_true hcb
     clear hcb
     go_wp2
     refine zad (.read 0 (.read 1 (.read 2 (.read 3 (.read 4 (.read 5 (.read 6 (.read 7 (.read 8 (.read 9 (.read 10 (.main 11 (.read 12 (.read 13 .done)))))))))))))) (by kernel_rfl) (by kernel_rfl) ?_
     intro wD hxD
     have XE:Hid (Ext wD wD):=Ext.refl _
     have px0:=zaa (zaa x0 _ hxD)
     have px1:=zaa (zaa x1 _ hxD)
     have py0:=zaa (zaa y0 _ hxD)
     have py1:=zaa (zaa y1 _ hxD)
     repeat' (first
      | ((first | refine zah rfl rfl ?_ | refine zae rfl rfl ?_ | refine zak rfl rfl ?_);simp only [Act.put,Act.eval,evs])
      | (refine zab rfl rfl ?_;simp only [Act.put,evp])
      | (refine zag (v:=?_) rfl rfl (fun w' hE=>?_) ?_;rotate_left 1;(· ((try (have hEx:=Ext.trans (Hid.out XE) hE));go_simp;(try go_bits);with_reducible rfl));simp only [Act.put,evp])
      | (refine walks_alt ?_ ?_)
      | (refine zai rfl rfl (fun K hK=>?_);go_wp2_with ((go_at_call 137;(with_reducible refine (zex x y _).mono ?_);rintro e w2 ⟨rfl,hx2⟩;have XE':=hid (Ext.trans (Hid.out XE) hx2);clear XE;have XE:=XE';clear XE'));refine hK _ _ (by first | assumption | exact Ext.alloc _ _ | exact Ext.refl _) ?_;clear hK K;try simp only [Act.put,evp]))
     refine zaj ?_
     have HXW:=hid (hxD.trans XE.out)
     clear px0 px1 py0 py1 x0 x1 y0 y1
     go_wp2
     exact ⟨⟨s,q,by omega,by omega,by omega,by omega,by omega,rfl,rfl,HX.out.trans HXW.out⟩,by simp [intOf];omega⟩
   ·have hlt':¬ (s:Int)<(r:Int):=by omega
    obtain ⟨en,hen⟩:∃ en,en=nn-s:=⟨_,rfl⟩
    have ze:(nn:Int)-(s:Int)=(en:Int):=by omega
    have he1:en+s≤md+m:=by omega
    have he2:md+m≤en+s:=by omega
    have HBR:Hid (Below w0.heap.size w wr):=Below.mono HX.out (zaD HG0.out.ext)
    clear hen
    go_upto_region 39 with fail
    go_cut [185] (fun c wx=>c=.bool (decide (s<m∧m<en))∧Hid (Ext wr wx))
    case first=>
     as_aux_lemma=>
      by_cases q1:s<m
      ·have q1':(s:Int)<(m:Int):=by omega
       by_cases q2:m<en
       ·have q2':(m:Int)<(en:Int):=by omega
        have HQ:Hid (decide (s<m∧m<en)=true):=decide_eq_true ⟨q1,q2⟩
        go_wp2
        go_meet
        exact ⟨by rw [HQ.out] <;> rfl,Ext.refl _⟩
       ·have q2':decide (m<en)=false:=decide_eq_false q2
        have HQ:Hid (decide (s<m∧m<en)=false):=decide_eq_false (fun h=>q2 h.2)
        go_wp2
        go_meet
        exact ⟨by rw [HQ.out] <;> rfl,Ext.refl _⟩
      ·have q1':decide (s<m)=false:=decide_eq_false q1
       have HQ:Hid (decide (s<m∧m<en)=false):=decide_eq_false (fun h=>q1 h.1)
       go_wp2
       go_meet
       exact ⟨by rw [HQ.out] <;> rfl,Ext.refl _⟩
    case rest=>
     obtain ⟨rfl,HXA⟩:=hcut
     have HGA:=hid (HGM.out.later HXA.out)
     have HBA:=hid (Below.trans HBR.out (Below.mono HXA.out (zaD HGM.out.ext)))
     clear HXA
     go_upto_if 185 with fail
     go_cut [191] (fun c wx=>Hid (∃ l1,GrowA 151 w0 wx (.slice (some ⟨g,0,none⟩) n cap) l1∧Sub l l1∧Below w0.heap.size w wx))
     case first=>
      as_aux_lemma=>
       by_cases hq:s<m∧m<en
       ·have hq':decide (s<m∧m<en)=true:=decide_eq_true hq
        have q1:=hq.1
        have q2:=hq.2
        go_wp2_with (go_at_call 207;(with_reducible refine (zm6 HGA.out q1 q2 (by omega) hn).mono ?_);rintro e w3 ⟨rfl,⟨l3,hg3,hs3⟩,hb3⟩;have HG3:=hid hg3;have HS3:=hid hs3;have HB3:=hid hb3;clear hg3 hs3 hb3)
        go_meet
        exact ⟨l3,HG3.out,HS3.out,Below.trans HBA.out HB3.out⟩
       ·have hq':decide (s<m∧m<en)=false:=decide_eq_false hq
        go_wp2
        go_meet
        exact ⟨l,HGA.out,Sub.refl l,HBA.out⟩
     case rest=>
      clear HGA HBA
      obtain ⟨l1,hg1,hs1',hb1⟩:=hcut.out
      have HGA:=hid hg1
      have HSA:=hid hs1'
      have HBA:=hid hb1
      clear hcut hg1 hs1' hb1
      go_upto_region 41 with fail
      go_cut [199] (fun c wx=>c=.bool (decide (a<s∧s<md))∧Hid (Ext wc wx))
      case first=>
       as_aux_lemma=>
        by_cases q1:a<s
        ·have q1':(a:Int)<(s:Int):=by omega
         by_cases q2:s<md
         ·have q2':(s:Int)<(md:Int):=by omega
          have HQ:Hid (decide (a<s∧s<md)=true):=decide_eq_true ⟨q1,q2⟩
          go_wp2
          go_meet
          exact ⟨by rw [HQ.out] <;> rfl,Ext.refl _⟩
         ·have q2':decide (s<md)=false:=decide_eq_false q2
          have HQ:Hid (decide (a<s∧s<md)=false):=decide_eq_false (fun h=>q2 h.2)
          go_wp2
          go_meet
          exact ⟨by rw [HQ.out] <;> rfl,Ext.refl _⟩
        ·have q1':decide (a<s)=false:=decide_eq_false q1
         have HQ:Hid (decide (a<s∧s<md)=false):=decide_eq_false (fun h=>q1 h.1)
         go_wp2
         go_meet
         exact ⟨by rw [HQ.out] <;> rfl,Ext.refl _⟩
      case' rest=>
       obtain ⟨rfl,HXA⟩:=hcut
       have HGB:=hid (HGA.out.later HXA.out)
       have HBB:=hid (Below.trans HBA.out (Below.mono HXA.out (zaD HGA.out.ext)))
       clear HXA HGA HBA
       have HGA:=HGB
       have HBA:=HBB
       clear HGB HBB
       go_upto_if 199 with fail
       go_cut [205] (fun c wx=>Hid (∃ l2,GrowA 151 w0 wx (.slice (some ⟨g,0,none⟩) n cap) l2∧Sub l1 l2∧Below w0.heap.size w wx))
       case first=>
        as_aux_lemma=>
         by_cases hq:a<s∧s<md
         ·have hq':decide (a<s∧s<md)=true:=decide_eq_true hq
          have q1:=hq.1
          have q2:=hq.2
          go_wp2_with (go_at_call 180;(with_reducible refine (HIH _ _ _ _ _ a s md _ (by omega) HGA.out (by omega) (by omega) (by omega) hn).mono ?_);rintro e w3 ⟨rfl,⟨l3,hg3,hs3⟩,hb3⟩;have HG3:=hid hg3;have HS3:=hid hs3;have HB3:=hid hb3;clear hg3 hs3 hb3)
          go_meet
          exact ⟨l3,HG3.out,HS3.out,Below.trans HBA.out HB3.out⟩
         ·have hq':decide (a<s∧s<md)=false:=decide_eq_false hq
          go_wp2
          go_meet
          exact ⟨l1,HGA.out,Sub.refl l1,HBA.out⟩
      case rest=>
       clear HGA HBA
       obtain ⟨l2,hg1,hs1',hb1⟩:=hcut.out
       have HSA2:=hid (HSA.out.trans hs1')
       clear HSA
       have HGA:=hid hg1
       have HSA:=HSA2
       have HBA:=hid hb1
       clear hcut hg1 hs1' hb1
       obtain ⟨l1',hl1⟩:∃ l1',l1'=l2:=⟨_,rfl⟩
       rw [← hl1] at HGA HSA
       clear hl1
       go_upto_region 43 with fail
       go_cut [213] (fun c wx=>c=.bool (decide (md<en∧en<b))∧Hid (Ext wc wx))
       case first=>
        as_aux_lemma=>
         by_cases q1:md<en
         ·have q1':(md:Int)<(en:Int):=by omega
          by_cases q2:en<b
          ·have q2':(en:Int)<(b:Int):=by omega
           have HQ:Hid (decide (md<en∧en<b)=true):=decide_eq_true ⟨q1,q2⟩
           go_wp2
           go_meet
           exact ⟨by rw [HQ.out] <;> rfl,Ext.refl _⟩
          ·have q2':decide (en<b)=false:=decide_eq_false q2
           have HQ:Hid (decide (md<en∧en<b)=false):=decide_eq_false (fun h=>q2 h.2)
           go_wp2
           go_meet
           exact ⟨by rw [HQ.out] <;> rfl,Ext.refl _⟩
         ·have q1':decide (md<en)=false:=decide_eq_false q1
          have HQ:Hid (decide (md<en∧en<b)=false):=decide_eq_false (fun h=>q1 h.1)
          go_wp2
          go_meet
          exact ⟨by rw [HQ.out] <;> rfl,Ext.refl _⟩
       case' rest=>
        obtain ⟨rfl,HXA⟩:=hcut
        have HGB:=hid (HGA.out.later HXA.out)
        have HBB:=hid (Below.trans HBA.out (Below.mono HXA.out (zaD HGA.out.ext)))
        clear HXA HGA HBA
        have HGA:=HGB
        have HBA:=HBB
        clear HGB HBB
        go_upto_if 213 with fail
        have HBW:=hid HBA.out
        by_cases hq:md<en∧en<b
        ·as_aux_lemma=>
          have hq':decide (md<en∧en<b)=true:=decide_eq_true hq
          have q1:=hq.1
          have q2:=hq.2
          go_wp2_with (go_at_call 180;(with_reducible refine (HIH _ _ _ _ _ md en b _ (by omega) HGA.out (by omega) (by omega) (by omega) hn).mono ?_);rintro e w3 ⟨rfl,⟨l3,hg3,hs3⟩,hb3⟩;have HG3:=hid hg3;have HS3:=hid hs3;have HB3:=hid hb3;clear hg3 hs3 hb3)
          go_end0
          exact ⟨rfl,⟨l3,HG3.out,HSA.out.trans HS3.out⟩,Below.trans HBA.out HB3.out⟩
        ·have hq':decide (md<en∧en<b)=false:=decide_eq_false hq
         go_wp2
         go_end0
         exact ⟨rfl,⟨_,HGA.out,HSA.out⟩,HBA.out⟩
theorem zgC:∀ d,zjO d
 | 0=>fun w0 w g n cap a m b l hd _ h1 h2=>by omega
 | d+1=>fun w0 w g n cap a m b l hd h h1 h2 h3 hn=>by
  by_cases hma:m=a+1
  ·exact zr3 h h1 h2 h3 hn hma
  ·by_cases hbm:b=m+1
   ·exact zr8 h h1 h2 h3 hn hma hbm
   ·exact zqE d (hid (zgC d)) h h1 h2 h3 hn hd hma hbm
def zeL (w0 w:World) (g n cap:Nat) (l:List Ava) (e:Ending) (w':World):Prop:=
 e=.returned (.tuple #[])∧(∃ l',GrowA 151 w0 w' (.slice (some ⟨g,0,none⟩) n cap) l'∧Sub l l'∧(n<20→l'=insF 0 (n-1) l))∧Below w0.heap.size w w'
theorem zsf {w0 w:World} {g n cap b:Nat} {l:List Ava} (h:GrowA 151 w0 w (.slice (some ⟨g,0,none⟩) n cap) l) (hb:b≤n) (hn:n≤4000000) :
 Calls Tryz.prog 179 #[.slice (some ⟨g,0,none⟩) n cap,.int .i64 0,.int .i64 b,cmpV] w fun e w'=>
  e=.returned (.tuple #[])∧GrowA 151 w0 w' (.slice (some ⟨g,0,none⟩) n cap) (insF 0 (b-1) l)∧Below w0.heap.size w w':=zgi (a:=0) h hb (by omega) hn
theorem znq {w0 w:World} {g n cap:Nat} {l:List Ava} (h:GrowA 151 w0 w (.slice (some ⟨g,0,none⟩) n cap) l) (hn:n≤4000000) :
 Calls Tryz.prog 162 #[.slice (some ⟨g,0,none⟩) n cap,.int .i64 n,cmpV] w (zeL w0 w g n cap l):=by
 have HG0:=hid h
 have HSM:=zgC
 unfold zjO at HSM
 clear h
 by_cases h20:n<20
 ·have t1:¬ (20:Int)≤(n:Int):=by omega
  have t2:¬ (20:Int)<(n:Int):=by omega
  have HZ:=hid (zfF 0 (n-1) l)
  go_enter Tryz.func162,Tryz.ntmps162
  go_wp2
  go_loopw [7,8] (fun u v wr=>u=.int .i64 0∧v=.int .i64 20∧wr=w) (fun u v _=>0)
  case atStart=>exact ⟨rfl,rfl,rfl⟩
  case round=>
   obtain ⟨rfl,rfl,rfl⟩:=hrel
   go_wp2_with (go_at_call 179;(with_reducible refine (zsf HG0.out (Nat.le_refl n) hn).mono ?_);rintro e w2 ⟨rfl,hg2,hb2⟩;have HG2:=hid hg2;have HB2:=hid hb2;clear hg2 hb2)
   go_loopw [6,7,8,9] (fun u _ _ _ wq=>u=.int .i64 20∧wq=w2) (fun u v _ _ _=>0)
   case atStart=>exact ⟨rfl,rfl⟩
   case round=>
    obtain ⟨rfl,rfl⟩:=hrel
    go_wp2
    go_end0
    exact ⟨rfl,⟨_,HG2.out,HZ.out,fun _=>rfl⟩,HB2.out⟩
 ·have HLN:=hid HG0.out.n_eq
  go_enter Tryz.func162,Tryz.ntmps162
  go_wp2
  go_loopw [7,8] (fun u v wr=>∃ (a:Nat) (m:List Ava),a≤n∧u=.int .i64 a∧v=.int .i64 ((a+20:Nat):Int)∧Hid (GrowA 151 w0 wr (.slice (some ⟨g,0,none⟩) n cap) m∧Below w0.heap.size w wr)∧Hid (Sub l m)) (fun u v _=>n-(intOf u).toNat)
  case atStart=>exact ⟨0,l,by omega,rfl,rfl,⟨HG0.out,Below.refl _ _⟩,Sub.refl l⟩
  case round=>
   obtain ⟨a,m,ha,rfl,rfl,HGM,HS⟩:=hrel
   by_cases hab:a+20≤n
   ·have hab':((a+20:Nat):Int)≤(n:Int):=by omega
    obtain ⟨b,hb⟩:∃ b,b=a+20:=⟨_,rfl⟩
    rw [← hb] at hab hab' ⊢
    have hb1:b≤a+20:=by omega
    have hb2:a+20≤b:=by omega
    clear hb
    have HIS:=hid (zfF a (b-(a+1)) m)
    go_wp2_with (go_at_call 179;(with_reducible refine (zgi (a:=a) (b:=b) HGM.out.1 (by omega) (by omega) hn).mono ?_);rintro e w2 ⟨rfl,hg2,hb2⟩;have HG2:=hid hg2;have HB2:=hid hb2;clear hg2 hb2)
    exact ⟨⟨b,_,by omega,rfl,by go_num,⟨HG2.out,Below.trans HGM.out.2 HB2.out⟩,HS.out.trans HIS.out⟩,by simp [intOf];omega⟩
   ·have hab':¬ ((a+20:Nat):Int)≤(n:Int):=by omega
    have HIS:=hid (zfF a (n-(a+1)) m)
    go_wp2_with (go_at_call 179;(with_reducible refine (zgi (a:=a) (b:=n) HGM.out.1 (by omega) (by omega) hn).mono ?_);rintro e w2 ⟨rfl,hg2,hb2⟩;have HG2:=hid hg2;have HB2:=hid hb2;clear hg2 hb2)
    go_loopw [6,7,8,9] (fun u _ _ _ wq=>∃ (bs:Nat) (m2:List Ava),20≤bs∧bs≤2 * n∧u=.int .i64 bs∧Hid (GrowA 151 w0 wq (.slice (some ⟨g,0,none⟩) n cap) m2∧Below w0.heap.size w wq)∧Hid (Sub l m2)) (fun u _ _ _ _=>2 * n-(intOf u).toNat)
    case atStart=>exact ⟨20,_,by omega,by omega,rfl,⟨HG2.out,Below.trans HGM.out.2 HB2.out⟩,HS.out.trans HIS.out⟩
    case round=>
     clear HGM HS HIS HG2 HB2
     obtain ⟨bs,m2,hbs1,hbs2,rfl,HGM,HS⟩:=hrel
     by_cases hbn:bs<n
     ·have hbn':(bs:Int)<(n:Int):=by omega
      go_wp2
      go_loopw [7,8] (fun u v wq=>∃ (a2 b2:Nat) (m3:List Ava),a2≤n∧b2≤a2+2 * bs∧a2+2 * bs≤b2∧u=.int .i64 a2∧v=.int .i64 b2∧Hid (GrowA 151 w0 wq (.slice (some ⟨g,0,none⟩) n cap) m3∧Below w0.heap.size w wq)∧Hid (Sub l m3)) (fun u v _=>n-(intOf u).toNat)
      case atStart=>exact ⟨0,2 * bs,m2,by omega,by omega,by omega,rfl,by go_num,HGM,HS⟩
      case round=>
       clear HGM HS
       obtain ⟨a2,b2,m3,ha2,hb3,hb4,rfl,rfl,HGM,HS⟩:=hrel
       obtain ⟨mm,hmm⟩:∃ mm,mm=a2+bs:=⟨_,rfl⟩
       have zm:(a2:Int)+(bs:Int)=(mm:Int):=by omega
       have hmm1:mm≤a2+bs:=by omega
       have hmm2:a2+bs≤mm:=by omega
       clear hmm
       by_cases hb2n:b2≤n
       ·have hb2n':(b2:Int)≤(n:Int):=by omega
        go_wp2_with (go_at_call 180;(with_reducible refine (HSM _ _ _ _ _ _ a2 mm b2 _ (Nat.le_refl _) HGM.out.1 (by omega) (by omega) (by omega) hn).mono ?_);rintro e w3 ⟨rfl,⟨l3,hg3,hs3⟩,hb3⟩;have HG3:=hid hg3;have HS3:=hid hs3;have HB3:=hid hb3;clear hg3 hs3 hb3)
        exact ⟨⟨b2,b2+2 * bs,l3,by omega,by omega,by omega,rfl,by go_num,⟨HG3.out,Below.trans HGM.out.2 HB3.out⟩,HS.out.trans HS3.out⟩,by simp [intOf];omega⟩
       ·have hb2n':¬ (b2:Int)≤(n:Int):=by omega
        by_cases hmn:mm<n
        ·have hmn':(mm:Int)<(n:Int):=by omega
         go_wp2_with (go_at_call 180;(with_reducible refine (HSM _ _ _ _ _ _ a2 mm n _ (Nat.le_refl _) HGM.out.1 (by omega) (by omega) (by omega) hn).mono ?_);rintro e w3 ⟨rfl,⟨l3,hg3,hs3⟩,hb3⟩;have HG3:=hid hg3;have HS3:=hid hs3;have HB3:=hid hb3;clear hg3 hs3 hb3)
         exact ⟨⟨2 * bs,l3,by omega,by omega,by go_num,⟨HG3.out,Below.trans HGM.out.2 HB3.out⟩,HS.out.trans HS3.out⟩,by simp [intOf];omega⟩
        ·have hmn':¬ (mm:Int)<(n:Int):=by omega
         go_wp2
         exact ⟨⟨2 * bs,m3,by omega,by omega,by go_num,HGM,HS⟩,by simp [intOf];omega⟩
     ·have hbn':¬ (bs:Int)<(n:Int):=by omega
      go_wp2
      go_end0
      exact ⟨rfl,⟨m2,HGM.out.1,HS.out,fun h=>absurd h h20⟩,HGM.out.2⟩
theorem zre {w0 w:World} {g n cap:Nat} {l:List Ava} (h:GrowA 151 w0 w (.slice (some ⟨g,0,none⟩) n cap) l) (hn:n≤4000000) :
 Calls Tryz.prog 136 #[.slice (some ⟨g,0,none⟩) n cap,cmpV] w (zeL w0 w g n cap l):=by
 have HG0:=hid h
 clear h
 have HST:=znq HG0.out hn
 unfold zeL at HST
 go_enter Tryz.func136,Tryz.ntmps136
 go_wp2_with (go_at_call 162;(with_reducible refine HST.mono ?_);rintro e w2 ⟨rfl,h1,h2⟩;have H1:=hid h1;have H2:=hid h2;clear h1 h2)
 go_end0
 exact ⟨rfl,H1.out,H2.out⟩
end Go.Proofs.YtioglicfndkgiaaGreatDoor
namespace Go.Proofs.YtioglicfndkgiaaGreatDoor
open Go.RowKit
set_option maxRecDepth 100000
theorem zdX {w:World} {base:Nat} {e:TypeId} {size n:Nat} {v:Value} {xs ys:List Value} (h:w.ownsRow base e size v n xs) (k:w.ownsRow base e size v n ys):ys=xs:=by
 rcases k.2 with ⟨_,z1⟩ | ⟨g,cap,cur,e3,e4,e5,e6,e7,e8,e9⟩
 ·have z2:=k.1
  have z3:=h.1
  rw [z1,Nat.zero_mul] at z2 z3
  rw [List.eq_nil_of_length_eq_zero z2,List.eq_nil_of_length_eq_zero z3]
 ·rcases h.2 with ⟨z0,z1⟩ | ⟨g',cap',cur',f3,f4,f5,f6,f7,f8,f9⟩
  ·rw [e3] at z0;cases z0
  ·rw [e3] at f3
   injection f3 with f3 _ f3'
   injection f3 with f3
   injection f3 with f3
   subst f3
   rw [e5] at f5
   injection f5 with f5
   injection f5 with f5
   subst f5
   rw [← e9,← f9]
section
variable {α:Type} {E:Elem α} {w w0:World} {o:Oper} {a:Act} {K:Act→World→Prop} {Q:Exit→Act→World→Prop} {ops:Array Oper} {rest:List Oper}
theorem zld {T ST:TypeId} {z:Value} {bytes:Nat} (hu:Tryz.prog.underlying ST=some (.slice T)) (hinf:(Tryz.prog.info? T).map (fun i=>(i.zero,i.size,i.bytes))=some (some z,E.k,bytes)) (hzs:z.cells.size=E.k) (hby:bytes≤1000)
 (s x:Operand) (ho:o.op=.call { callee:=.builtin .append,args:=#[s,x],argTypes:=#[ST,ST] }) {L:Option Nat} (v:Value) (l:List α) (hs:a.eval s=v) (hg:GrowR E T L w0 w v l)
 {t:TypeId} {u:List Value} (y:α) (hE:E.R (zgy w0 v L) w u y) (h1:∀ c∈u,c.oneCell'=true) {g:Nat} (hx:a.eval x=.slice (some ⟨g,0,none⟩) 1 1) (hgs:g=w.heap.size) (hb:l.length≤4000000)
 (h:∀ v' w',GrowR E T L w0 w' v' (l++[y])→(w.alloc (.cells u.toArray t)).grownBy w' v.ownBlock→Below w0.heap.size (w.alloc (.cells u.toArray t)) w'→K (a.put o.dst v') w') :
 o.wp Tryz.prog a (w.alloc (.cells u.toArray t)) K Q:=by
 subst hgs
 have hg2:=hg.later (Ext.alloc w (.cells u.toArray t))
 have hk:u.length=E.k:=E.len hE
 obtain ⟨⟨vss,q1,q2,q3⟩,q4,q5⟩:=hg2
 refine zbO s x ST ho w0.heap.size T z E.k bytes hu hinf hzs E.pos v l.length vss.flatten hs q2 _ 1 1 u hx (by rw [hk,Nat.one_mul]) (.inr ⟨_,0,rfl,fun j c hj=>by rw [Nat.zero_add,zda];simpa using hj⟩)
  h1 (by simp [maxLen];omega) (Nat.le_trans (Nat.mul_le_mul (Nat.add_le_add_right hb 1) hby) (by decide)) (zaD q4) ?_
 intro v' w' p1 p2 p3
 have hE':E.R (zgy w0 v L) (w.alloc (.cells u.toArray t)) u y:=zbm hE (fun b _ hlt=>(Ext.alloc w (.cells u.toArray t)).block b hlt) (fun b hS _=>hS)
 obtain ⟨k1,k2⟩:=(hg.later (Ext.alloc w (.cells u.toArray t))).snoc (v':=v') (w':=w') hE' (fun vs' hvs'=>by rw [zdX q2 hvs'];exact p1) p2 p3
 exact h v' w' k1 p2 k2
theorem zhh {T ST:TypeId} {z:Value} {bytes:Nat} (hu:Tryz.prog.underlying ST=some (.slice T)) (hinf:(Tryz.prog.info? T).map (fun i=>(i.zero,i.size,i.bytes))=some (some z,E.k,bytes)) (hzs:z.cells.size=E.k) (hby:bytes≤1000)
 (hgd:o.guard=none) (s x:Operand) (ho:o.op=.call { callee:=.builtin .append,args:=#[s,x],argTypes:=#[ST,ST] }) {L:Option Nat} (v:Value) (l:List α) (hs:a.eval s=v) (hg:GrowR E T L w0 w v l)
 {t:TypeId} {u:List Value} (y:α) (hE:E.R (zgy w0 v L) w u y) (h1:∀ c∈u,c.oneCell'=true) {g:Nat} (hx:a.eval x=.slice (some ⟨g,0,none⟩) 1 1) (hgs:g=w.heap.size) (hb:l.length≤4000000)
 (h:∀ v' w',GrowR E T L w0 w' v' (l++[y])→(w.alloc (.cells u.toArray t)).grownBy w' v.ownBlock→Below w0.heap.size (w.alloc (.cells u.toArray t)) w'→wpList Tryz.prog ops Q rest (a.put o.dst v') w') :
 wpList Tryz.prog ops Q (o::rest) a (w.alloc (.cells u.toArray t)):=
 wpList_plain hgd fun _ hK=>zld hu hinf hzs hby s x ho v l hs hg y hE h1 hx hgs hb fun v' w' k1 k2 k3=>hK _ _ (h v' w' k1 k2 k3)
end
end Go.Proofs.YtioglicfndkgiaaGreatDoor
namespace Go.Proofs.YtioglicfndkgiaaGreatDoor
open Go.RowKit
set_option maxRecDepth 100000
theorem zpD {P:Program} {fn:Func} {R:Ending→World→Prop} {a:Act} {w0 w:World} {p:Tmp} {ty:TypeId} {g:Nat} {T:TypeId} {cs:Array Value} (d:TypeDesc) (h:fn.results=#[.cell p ty])
 (hp:a.tmps.getD p undef=.pointer (some ⟨g,0,none⟩)) (hb:Bx w0 w g T cs) (hu:P.underlying ty=some d) (hd:(match d with | .struct _ | .array _ _=>true | _=>false)=true) (hi:(P.info? ty).map (·.size)=some cs.size)
 (hdf:a.defers=[]) (hR:R (.returned (.agg cs)) w):bodyPost P fn R .ret a w:=by
 refine bodyPost_ret (v:=.agg cs) ?_ hdf hR
 exact results_cell_row h a.tmps w g T cs (0,0) d hp hb.blk hu hd hi
section
variable {w w0:World} {o:Oper} {a:Act} {K:Act→World→Prop} {Q:Exit→Act→World→Prop}
end
theorem zsi:(Tryz.prog.info? 57).map (fun i=>(i.zero,i.size,i.bytes))=some (some (.agg #[.string ByteArray.empty,.slice none 0 0]),Elem.att.k,40):=by kernel_rfl
theorem zn6:(Tryz.prog.info? 44).map (fun i=>(i.zero,i.size,i.bytes))=some (some (.agg #[.string ByteArray.empty,.slice none 0 0]),Elem.ent.k,40):=by kernel_rfl
theorem zso {w wr:World} {B:Nat} {p:Addr} {v:Value} (h:w.cell? p=some v) (hp:p.block<B) (hx:Below B w wr):∀ w',Below B wr w'→w'.cell? p=some v:=fun w' h'=>by
 rw [Below.cell (Below.trans hx h') hp]
 exact h
end Go.Proofs.YtioglicfndkgiaaGreatDoor
namespace Go.Proofs.YtioglicfndkgiaaGreatDoor
open Go.RowKit
set_option maxRecDepth 100000
def zcK (S:Nat→Prop) (v:Value) (L:Option Nat):Nat→Prop:=fun b=>S b∧some b≠v.ownBlock∧some b≠L
structure GrowM {α:Type} (E:Elem α) (S:Nat→Prop) (T:TypeId) (L:Option Nat) (w wr:World) (v:Value) (l:List α):Prop where
 rows:∃ vss:List (List Value),vss.length=l.length∧wr.ownsRow w.heap.size T E.k v l.length vss.flatten∧(∀ (i:Nat) u x,vss[i]?=some u→l[i]?=some x→E.R (zcK S v L) wr u x)
 ext:Ext w wr
 apart:∀ g,L=some g→v.ownBlock≠some g∧w.heap.size≤g∧g<wr.heap.size
section
variable {α:Type} {E:Elem α} {S:Nat→Prop} {T:TypeId} {L:Option Nat} {w wr w':World} {v:Value} {l:List α}
theorem GrowM.nil (hx:Ext w wr) (hL:∀ g,L=some g→w.heap.size≤g∧g<wr.heap.size):GrowM E S T L w wr (.slice none 0 0) []:=
 ⟨⟨[],rfl,World.ownsRow_nil _ _ _ _,fun i u x h=>by simp at h⟩,hx,fun g hg=>⟨by simp [Value.ownBlock],hL g hg⟩⟩
theorem GrowM.later (h:GrowM E S T L w wr v l) (hx:Ext wr w'):GrowM E S T L w w' v l:=by
 obtain ⟨⟨vss,h1,h2,h3⟩,h4,h5⟩:=h
 exact ⟨⟨vss,h1,zd6 h2 hx,fun i u x hi hl=>zbm (h3 i u x hi hl) (fun b _ hb=>hx.block b hb) (fun b hS _=>hS)⟩,h4.trans hx,fun g hg=>⟨(h5 g hg).1,(h5 g hg).2.1,Nat.lt_of_lt_of_le (h5 g hg).2.2 hx.size⟩⟩
theorem GrowM.setL {g:Nat} (h:GrowM E S T (some g) w wr v l) (i:Nat) (z:Value):GrowM E S T (some g) w (wr.setCell ⟨g,i,none⟩ z) v l:=by
 obtain ⟨⟨vss,h1,h2,h3⟩,h4,h5⟩:=h
 obtain ⟨ha,hb,hc⟩:=h5 g rfl
 refine ⟨⟨vss,h1,?_,fun i' u x hi hl=>zbm (h3 i' u x hi hl) (fun b hS _=>heap_setCell_other _ _ _ _ (fun e=>hS.2.2 (by rw [e]))) (fun b hS _=>hS)⟩,h4.setCell hb _,fun g' hg=>⟨(h5 g' hg).1,(h5 g' hg).2.1,by simpa using (h5 g' hg).2.2⟩⟩
 obtain ⟨q1,q2⟩:=h2
 refine ⟨q1,?_⟩
 rcases q2 with q2 | ⟨k,cap,cur,e1,e2,e3,e4⟩
 ·exact .inl q2
 ·refine .inr ⟨k,cap,cur,e1,e2,?_,e4⟩
  rw [heap_setCell_other _ _ _ _ (fun e=>ha (by rw [e1];exact congrArg some e))]
  exact e3
theorem GrowM.row (h:GrowM E S T L w wr v l):∃ A c,v=.slice A l.length c∧Row E (fun b=>S b∨w.heap.size≤b) wr A l.length c l:=by
 obtain ⟨⟨vss,h1,h2,h3⟩,h4,h5⟩:=h
 obtain ⟨A,c,rfl⟩:∃ A c,v=.slice A l.length c:=by
  rcases h2.2 with ⟨rfl,h0⟩ | ⟨g,cap,cur,rfl,_⟩
  ·exact ⟨none,0,by rw [h0]⟩
  ·exact ⟨_,_,rfl⟩
 exact ⟨A,c,rfl,zfw h2 rfl h1 (fun g hg=>.inr (h2.lt g hg).1) fun i u x hi hl=>E.mono (h3 i u x hi hl) fun b _ hS=>.inl hS.1⟩
theorem GrowM.lt (h:GrowM E S T L w wr v l) {b:Nat} (hb:v.ownBlock=some b):w.heap.size≤b∧b<wr.heap.size:=by
 obtain ⟨⟨vss,h1,h2,h3⟩,h4,h5⟩:=h
 exact h2.lt b hb
theorem GrowM.free (h:GrowM E S T L w wr v l):GrowM E S T none w wr v l:=by
 obtain ⟨⟨vss,q1,q2,q3⟩,q4,q5⟩:=h
 exact ⟨⟨vss,q1,q2,fun i u x hi hl=>E.mono (q3 i u x hi hl) fun b _ hb=>⟨hb.1,hb.2.1,by simp⟩⟩,q4,fun k hk=>by cases hk⟩
theorem GrowM.old {S':Nat→Prop} {u:List Value} {x:α} (h:GrowM E S T L w wr v l) (hs:∀ b,b<w.heap.size→S' b→S b) (hE:E.R S' w u x):E.R (zcK S v L) wr u x:=by
 obtain ⟨⟨vss,h1,h2,h3⟩,h4,h5⟩:=h
 have e1:E.R (fun b=>S' b∧b<w.heap.size) w u x:=E.mono hE fun b hb hS=>⟨hS,hb⟩
 have e2:E.R (fun b=>S' b∧b<w.heap.size) wr u x:=E.same e1 fun b hb=>h4.block b hb.2
 refine E.mono e2 fun b _ hb=>⟨hs b hb.2 hb.1,fun e=>?_,fun e=>?_⟩
 ·have:=(h2.lt b e.symm).1;omega
 ·have:=(h5 b e.symm).2.1;omega
theorem GrowM.new {S':Nat→Prop} {u:List Value} {x:α} {w1:World} (h:GrowM E S T L w wr v l) (hs:∀ b,b<w1.heap.size→S' b→S b) (hS:∀ b,S' b→b<w.heap.size∨wr.heap.size≤b) (hE:E.R S' w1 u x):E.R (zcK S v L) w1 u x:=by
 obtain ⟨⟨vss,h1,h2,h3⟩,h4,h5⟩:=h
 refine E.mono hE fun b hlt hb=>⟨hs b hlt hb,fun e=>?_,fun e=>?_⟩
 ·have h6:=h2.lt b e.symm
  have h7:=hS b hb
  omega
 ·have h6:=h5 b e.symm
  have h7:=hS b hb
  omega
theorem GrowM.snoc {v':Value} {xs:List α} {us:List (List Value)} (h:GrowM E S T L w wr v l) (hlen:us.length=xs.length) (hx:∀ (i:Nat) u x,us[i]?=some u→xs[i]?=some x→E.R (zcK S v L) wr u x) (ho:∀ vss,wr.ownsRow w.heap.size T E.k v l.length vss→w'.ownsRow w.heap.size T E.k v' (l.length+xs.length) (vss++us.flatten)) (hg:wr.grownBy w' v.ownBlock)
 (hb:v'.ownBlock=v.ownBlock∨v'.ownBlock=some wr.heap.size):GrowM E S T L w w' v' (l++xs)∧Below w.heap.size wr w':=by
 obtain ⟨⟨vss,h1,h2,h3⟩,h4,h5⟩:=h
 have hbw:Below w.heap.size wr w':=zbY h2 hg (zaD h4) (Nat.le_refl _)
 have hkeep:∀ b,zcK S v L b→b<wr.heap.size→w'.heap[b]?=wr.heap[b]?:=fun b hS hlt=>hg.block b hlt hS.2.1
 have hin:∀ b,zcK S v L b→b<wr.heap.size→zcK S v' L b:=fun b hS hlt=>⟨hS.1,fun e=>by
  rcases hb with hb | hb
  ·exact hS.2.1 (by rw [e,hb])
  ·rw [hb] at e;injection e with e;omega,hS.2.2⟩
 refine ⟨⟨⟨vss++us,by simp [h1,hlen],?_,fun i u' x' hi hl=>?_⟩,Below.trans h4 hbw,fun g hgL=>?_⟩,hbw⟩
 ·rw [List.length_append,List.flatten_append]
  exact ho _ h2
 ·rcases Nat.lt_or_ge i vss.length with hlt | hge
  ·rw [List.getElem?_append_left hlt] at hi
   rw [List.getElem?_append_left (by omega)] at hl
   exact zbm (h3 i u' x' hi hl) hkeep hin
  ·rw [List.getElem?_append_right hge] at hi
   rw [List.getElem?_append_right (by omega),← h1] at hl
   exact zbm (hx _ u' x' hi hl) hkeep hin
 ·obtain ⟨ha,hb',hc⟩:=h5 g hgL
  refine ⟨?_,hb',Nat.lt_of_lt_of_le hc hg.size⟩
  rcases hb with hb | hb
  ·rw [hb];exact ha
  ·rw [hb];intro e;injection e with e;omega
end
section
variable {α:Type} {E:Elem α} {S:Nat→Prop} {w w0:World} {o:Oper} {a:Act} {K:Act→World→Prop} {Q:Exit→Act→World→Prop} {ops:Array Oper} {rest:List Oper}
theorem zhl {T ST:TypeId} {z:Value} {bytes:Nat} (hu:Tryz.prog.underlying ST=some (.slice T)) (hinf:(Tryz.prog.info? T).map (fun i=>(i.zero,i.size,i.bytes))=some (some z,E.k,bytes)) (hzs:z.cells.size=E.k) (hby:bytes≤1000)
 (s x:Operand) (ho:o.op=.call { callee:=.builtin .append,args:=#[s,x],argTypes:=#[ST,ST] }) {L:Option Nat} (v:Value) (l:List α) (hs:a.eval s=v) (hg:GrowM E S T L w0 w v l)
 {A:Option Addr} {m c:Nat} (us:List (List Value)) (ys:List α) (hlen:us.length=ys.length) (hE:∀ (i:Nat) u y,us[i]?=some u→ys[i]?=some y→E.R (zcK S v L) w u y) (h1:∀ c∈us.flatten,c.oneCell'=true) (hx:a.eval x=.slice A m c) (hm:m=ys.length) (hcs:Cells w A us.flatten) (hb:l.length+m≤8000000)
 (h:∀ v' w',GrowM E S T L w0 w' v' (l++ys)→w.grownBy w' v.ownBlock→Below w0.heap.size w w'→K (a.put o.dst v') w') :
 o.wp Tryz.prog a w K Q:=by
 have hg2:=hg
 obtain ⟨⟨vss,q1,q2,q3⟩,q4,q5⟩:=hg2
 have hlk:∀ v∈us,v.length=E.k:=fun v hv=>by
  obtain ⟨j,hj,rfl⟩:=List.mem_iff_getElem.1 hv
  exact E.len (hE j us[j] (ys[j]'(by omega)) (List.getElem?_eq_getElem hj) (List.getElem?_eq_getElem (by omega)))
 have hfl:us.flatten.length=m * E.k:=by
  have e:∀ (u:List (List Value)),(∀ v∈u,v.length=E.k)→u.flatten.length=u.length * E.k:=by
   intro u
   induction u with
   | nil=>intro _;simp
   | cons v t ih=>intro hh;rw [List.flatten_cons,List.length_append,ih (fun x hx=>hh x (by simp [hx])),hh v (by simp),List.length_cons,Nat.succ_mul];omega
  rw [e us hlk,hlen,hm]
 refine zbO s x ST ho w0.heap.size T z E.k bytes hu hinf hzs E.pos v l.length vss.flatten hs q2 A m c us.flatten hx hfl hcs h1 (by simp [maxLen];omega) (Nat.le_trans (Nat.mul_le_mul hb hby) (by decide)) (zaD q4) ?_
 intro v' w' p1 p2 p3
 obtain ⟨k1,k2⟩:=hg.snoc (v':=v') (w':=w') hlen hE (fun vs' hvs'=>by rw [zdX q2 hvs',← hm];exact p1) p2 p3
 exact h v' w' k1 p2 k2
theorem zkm {T ST:TypeId} {z:Value} {bytes:Nat} (hu:Tryz.prog.underlying ST=some (.slice T)) (hinf:(Tryz.prog.info? T).map (fun i=>(i.zero,i.size,i.bytes))=some (some z,E.k,bytes)) (hzs:z.cells.size=E.k) (hby:bytes≤1000)
 (s x:Operand) (ho:o.op=.call { callee:=.builtin .append,args:=#[s,x],argTypes:=#[ST,ST] }) {L:Option Nat} (v:Value) (l:List α) (hs:a.eval s=v) (hg:GrowM E S T L w0 w v l)
 {t:TypeId} {u:List Value} (y:α) (hE:E.R (zcK S v L) w u y) (h1:∀ c∈u,c.oneCell'=true) {g:Nat} (hx:a.eval x=.slice (some ⟨g,0,none⟩) 1 1) (hgs:g=w.heap.size) (hb:l.length≤4000000)
 (h:∀ v' w',GrowM E S T L w0 w' v' (l++[y])→(w.alloc (.cells u.toArray t)).grownBy w' v.ownBlock→Below w0.heap.size (w.alloc (.cells u.toArray t)) w'→K (a.put o.dst v') w') :
 o.wp Tryz.prog a (w.alloc (.cells u.toArray t)) K Q:=by
 subst hgs
 refine zhl hu hinf hzs hby s x ho v l hs (hg.later (Ext.alloc _ _)) [u] [y] rfl (fun i u' y' hi hy=>?_) (by simpa using h1) hx rfl (.inr ⟨_,0,rfl,fun j c hj=>by rw [Nat.zero_add,zda];simpa using hj⟩) (by omega) h
 rcases i with _ | i
 ·simp at hi hy
  subst hi hy
  exact zbm hE (fun b _ hlt=>(Ext.alloc w (.cells u.toArray t)).block b hlt) (fun b hS _=>hS)
 ·simp at hi
theorem zmD {T ST:TypeId} {z:Value} {bytes:Nat} (hu:Tryz.prog.underlying ST=some (.slice T)) (hinf:(Tryz.prog.info? T).map (fun i=>(i.zero,i.size,i.bytes))=some (some z,E.k,bytes)) (hzs:z.cells.size=E.k) (hby:bytes≤1000)
 (hgd:o.guard=none) (s x:Operand) (ho:o.op=.call { callee:=.builtin .append,args:=#[s,x],argTypes:=#[ST,ST] }) {L:Option Nat} (v:Value) (l:List α) (hs:a.eval s=v) (hg:GrowM E S T L w0 w v l)
 {A:Option Addr} {m c:Nat} (us:List (List Value)) (ys:List α) (hlen:us.length=ys.length) (hE:∀ (i:Nat) u y,us[i]?=some u→ys[i]?=some y→E.R (zcK S v L) w u y) (h1:∀ c∈us.flatten,c.oneCell'=true) (hx:a.eval x=.slice A m c) (hm:m=ys.length) (hcs:Cells w A us.flatten) (hb:l.length+m≤8000000)
 (h:∀ v' w',GrowM E S T L w0 w' v' (l++ys)→w.grownBy w' v.ownBlock→Below w0.heap.size w w'→wpList Tryz.prog ops Q rest (a.put o.dst v') w'):wpList Tryz.prog ops Q (o::rest) a w:=
 wpList_plain hgd fun _ hK=>zhl hu hinf hzs hby s x ho v l hs hg us ys hlen hE h1 hx hm hcs hb fun v' w' k1 k2 k3=>hK _ _ (h v' w' k1 k2 k3)
theorem zky {T ST:TypeId} {z:Value} {bytes:Nat} (hu:Tryz.prog.underlying ST=some (.slice T)) (hinf:(Tryz.prog.info? T).map (fun i=>(i.zero,i.size,i.bytes))=some (some z,E.k,bytes)) (hzs:z.cells.size=E.k) (hby:bytes≤1000)
 (hgd:o.guard=none) (s x:Operand) (ho:o.op=.call { callee:=.builtin .append,args:=#[s,x],argTypes:=#[ST,ST] }) {L:Option Nat} (v:Value) (l:List α) (hs:a.eval s=v) (hg:GrowM E S T L w0 w v l)
 {t:TypeId} {u:List Value} (y:α) (hE:E.R (zcK S v L) w u y) (h1:∀ c∈u,c.oneCell'=true) {g:Nat} (hx:a.eval x=.slice (some ⟨g,0,none⟩) 1 1) (hgs:g=w.heap.size) (hb:l.length≤4000000)
 (h:∀ v' w',GrowM E S T L w0 w' v' (l++[y])→(w.alloc (.cells u.toArray t)).grownBy w' v.ownBlock→Below w0.heap.size (w.alloc (.cells u.toArray t)) w'→wpList Tryz.prog ops Q rest (a.put o.dst v') w') :
 wpList Tryz.prog ops Q (o::rest) a (w.alloc (.cells u.toArray t)):=
 wpList_plain hgd fun _ hK=>zkm hu hinf hzs hby s x ho v l hs hg y hE h1 hx hgs hb fun v' w' k1 k2 k3=>hK _ _ (h v' w' k1 k2 k3)
end
end Go.Proofs.YtioglicfndkgiaaGreatDoor
