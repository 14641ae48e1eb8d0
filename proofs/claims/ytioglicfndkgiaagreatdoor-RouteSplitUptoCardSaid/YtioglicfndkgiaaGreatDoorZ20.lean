/- Lemmas of the walk. -/
import Derived.Test.YtioglicfndkgiaaGreatDoorZ19
import Derived.Test.YtioglicfndkgiaaGreatDoorZ13
import Derived.Test.YtioglicfndkgiaaGreatDoorZ11
set_option maxHeartbeats 40000000
set_option linter.unusedVariables false
set_option linter.unusedSimpArgs false
namespace Go.Proofs.YtioglicfndkgiaaGreatDoor
open Go.RowKit
set_option maxRecDepth 100000
def zjp (w:World) (p:List UInt8) (e:Ending) (w':World):Prop:=
 ∃ x:Ava,e=.returned (.tuple #[avaV x,.bool (avaB p).isSome])∧(∀ y,avaB p=some y→x=y)∧Ext w w'
theorem zrv {p:List UInt8} {j:Nat} (hn:∀ i,i<j→p[i]?≠some 61) (h:p[j]?=some 61):zdT p=some (p.take j,p.drop (j+1)):=by
 have h1:p=p.take j++61::p.drop (j+1):=by
  obtain ⟨h1,h2⟩:=List.getElem?_eq_some_iff.1 h
  have:=List.take_append_drop j p
  rw [List.drop_eq_getElem_cons h1,h2] at this
  exact this.symm
 have h2:(61:UInt8) ∉ p.take j:=by
  intro hm
  obtain ⟨i,hi,he⟩:=List.mem_iff_getElem.1 hm
  rw [List.length_take] at hi
  refine hn i (by omega) ?_
  rw [List.getElem_take] at he
  rw [List.getElem?_eq_getElem (by omega),he]
 conv=>lhs;rw [h1]
 exact zfL _ _ h2
theorem zoK {p:List UInt8} (hn:∀ i,i<p.length→p[i]?≠some 61):zdT p=none:=by
 refine zf2 p fun hm=>?_
 obtain ⟨i,hi,he⟩:=List.mem_iff_getElem.1 hm
 exact hn i hi (by rw [List.getElem?_eq_getElem hi,he])
theorem zqV (s:ByteArray) (w:World) (hs:s.size≤1000000) :
 Calls Tryz.prog 146 #[.string s] w (zjp w (bys s)):=by
 have Hs:=hid hs
 go_enter Tryz.func146,Tryz.ntmps146
 go_wp2
 go_loop [4] (fun i=>∃ j:Nat,j≤s.size∧i=.int .i64 j∧Hid (∀ i,i<j→(bys s)[i]?≠some 61)) (fun i=>s.size-(intOf i).toNat)
 case atStart=>exact ⟨0,by omega,rfl,fun i hi=>by omega⟩
 case round=>
  obtain ⟨j,hj,rfl,HN⟩:=hrel
  by_cases hlt:j<s.size
  ·have hlt':(j:Int)<(s.size:Int):=by omega
   obtain ⟨x,hx⟩:=zcq hlt
   have gx:=za0 hx hlt
   by_cases h61:x=61
   ·have t1:((x.toNat:Int) != 61)=false:=by rw [h61];rfl
    have HC:Hid (zdT (bys s)=some ((bys s).take j,(bys s).drop (j+1))):=zrv HN.out (by rw [hx,h61])
    have tj:((j:Int)==(s.size:Int))=false:=by rw [beq_eq_false_iff_ne];omega
    obtain ⟨a,ha⟩:∃ a,a=(bys s).take j:=⟨_,rfl⟩
    obtain ⟨r,hr⟩:∃ r,r=(bys s).drop (j+1):=⟨_,rfl⟩
    have hs1:s.extract 0 j=str a:=by rw [ha,← zaN (s.extract 0 j),zeu];rfl
    have hs2:s.extract (j+1) s.size=str r:=by rw [hr,← zaN (s.extract (j+1) s.size),zeW]
    have hal:a.length≤1000000:=by rw [ha,List.length_take,zaf];omega
    have hrl:r.length≤1000000:=by rw [hr,List.length_drop,zaf];omega
    have z1:((j:Int)+1).toNat=j+1:=by omega
    have z2:(j:Int)+1≤(s.size:Int):=by omega
    have z3:(j:Int)≤(s.size:Int):=by omega
    rw [← ha,← hr] at HC
    have HAV:Hid (avaB (bys s)=if (zar a).2=0 then none else (za9 r).map fun v=>⟨(zar a).1,v⟩):=by show _=_;unfold avaB;rw [HC.out]
    have HT:∀ w,Calls Tryz.prog 55 #[.string (str a)] w (zaT w a):=fun w=>by
     have:=zeB (str a) w (by rw [zaL];simp only [maxLen];omega)
     rwa [zao] at this
    have HV:∀ w,Calls Tryz.prog 166 #[.string (str r)] w (zgs w (za9 r)):=fun w=>by
     have:=zqQ (str r) w (by rw [zaL];omega)
     rwa [zao] at this
    unfold zaT at HT
    unfold zgs at HV
    generalize zar a=tk at *
    obtain ⟨t,k⟩:=tk
    generalize za9 r=vo at *
    simp only at HT HAV
    have tk0:((k:Int) != 0) = !decide (k=0):=by
     by_cases h:k=0
     ·simp [h]
     ·rw [decide_eq_false h];rw [bne_iff_ne.2 (by omega)];rfl
    have HRES:Hid (∃ x:Ava,x=⟨t,vo.getD []⟩∧((vo.isSome && !decide (k=0))=(avaB (bys s)).isSome)∧∀ y,avaB (bys s)=some y→x=y):=by
     refine ⟨_,rfl,?_,?_⟩
     ·rw [HAV.out]
      by_cases h:k=0
      ·simp [h]
      ·cases vo <;> simp [h]
     ·intro y hy
      rw [HAV.out] at hy
      by_cases h:k=0
      ·rw [if_pos h] at hy;cases hy
      ·rw [if_neg h] at hy
       cases vo with
       | none=>cases hy
       | some v=>cases hy;rfl
    clear hx h61 ha hr HC HAV HN
    cases hv:vo.isSome
    all_goals
     rw [hv] at HRES
     have HRS:=hid (HRES.out)
     go_wp2_with (first
      | (go_at_call 55;(with_reducible refine (HT _).mono ?_);rintro e w3 ⟨rfl,hx3⟩;have HX3:=hid hx3;clear hx3)
      | (go_at_call 166;(with_reducible refine (HV _).mono ?_);rintro e w4 ⟨he4,hx4⟩;rw [hv] at he4;subst he4;have HB:=(Bx.make (Ext.refl w) #[.string ByteArray.empty,.string ByteArray.empty] 175).later (HX3.out.trans hx4);have c0:=HB.cell (i:=0) rfl;have c1:=HB.cell (i:=1) rfl;have f0:=HB.frozen 0;have f1:=HB.frozen 1;have HBX:=hid HB;clear hx4 HB))
     (try simp only [Exit.inBlock,Exit.then])
     refine zas _ rfl rfl ((HBX.out.set0 (.string (str t))).set1 (.string (str (vo.getD [])))) Tryz.underlying175 rfl (by kernel_rfl) rfl ?_
     obtain ⟨x',rfl,hb,hu⟩:=HRS.out
     refine ⟨_,?_,hu,((HBX.out.set0 (.string (str t))).set1 (.string (str (vo.getD [])))).ext⟩
     rw [← hb]
     rfl
   ·have t1:((x.toNat:Int) != 61)=true:=by
     have h:((x.toNat:Int)==61)=false:=zau (k:=61) h61
     rw [bne,h];rfl
    have HN2:Hid (∀ i,i<j+1→(bys s)[i]?≠some 61):=by
     intro i hi
     by_cases hij:i=j
     ·subst hij;rw [hx];intro e;injection e with e;exact h61 e
     ·exact HN.out i (by omega)
    clear hx h61
    go_wp2
    exact ⟨⟨j+1,by omega,by go_num,HN2⟩,by simp [intOf];omega⟩
  ·obtain rfl:j=s.size:=by omega
   have HF:Hid (avaB (bys s)=none):=by
    show _=_
    unfold avaB
    rw [zoK (fun i hi=>HN.out i (by rw [zaf] at hi;exact hi))]
   have HBX:=hid (Bx.make (Ext.refl w) #[.string ByteArray.empty,.string ByteArray.empty] 175)
   clear HN
   go_wp2
   (try simp only [Exit.inBlock,Exit.then])
   refine zas _ rfl rfl HBX.out Tryz.underlying175 rfl (by kernel_rfl) rfl ?_
   refine ⟨⟨[],[]⟩,?_,?_,HBX.out.ext⟩
   ·rw [HF.out];rfl
   ·intro y hy;rw [HF.out] at hy;cases hy
theorem zeX:Tryz.prog.underlying 143=some (.slice (Tryz.prog.elem 143)):=by kernel_rfl
theorem zkG (w:World):(sizeOf (Tryz.prog.elem 143)).run Tryz.prog w=.ok 2 w:=by kernel_rfl
theorem zms (A:Option Addr) (n c l:Nat) (hlk:l≤n) :
 ∀ w,(Instr.sliceAt 143 (.slice A n c) (some (.int .i64 (l:Int))) none none).run Tryz.prog w=.ok (.slice (cutA A l c 2) (n-l) (c-l)) w:=fun w=>by
 have h1:(l:Int)≤(n:Int):=by omega
 have:=run_slice_l (P:=Tryz.prog) w 143 A n c zeX .i64 (l:Int) (by omega) h1
 rw [run_sliceAt_slice w 143 _ _ _ _ zeX,this,zkG]
 simp only [sliced,cutA,Result.andThen,Int.toNat_natCast]
theorem zmF (A:Option Addr) (n c k:Nat) (hlk:k≤c) :
 ∀ w,(Instr.sliceAt 143 (.slice A n c) none (some (.int .i64 (k:Int))) none).run Tryz.prog w=.ok (.slice (cutA A 0 c 2) k c) w:=fun w=>by
 have h2:(k:Int)≤(c:Int):=by omega
 have:=run_slice_h (P:=Tryz.prog) w 143 A n c zeX .i64 (k:Int) (by omega) h2
 rw [run_sliceAt_slice w 143 _ _ _ _ zeX,this,zkG]
 simp only [sliced,cutA,Result.andThen,Int.toNat_natCast,Nat.sub_zero]
theorem Cells.cut2 {w:World} {A:Option Addr} {vs:List Value} (h:Cells w A vs) {k cap:Nat} (hc:vs.length≤cap * 2):Cells w (cutA A k cap 2) (vs.drop (k * 2)):=by
 unfold cutA
 split
 ·subst_vars;exact .inl (List.drop_eq_nil_of_le hc)
 ·exact h.drop (k * 2)
theorem zkv:∀ (l:List Ava) (k:Nat),((l.drop k).map zay).flatten=(l.map zay).flatten.drop (k * 2)
 | [],k=>by simp
 | a::l,0=>by simp
 | a::l,k+1=>by
  rw [List.drop_succ_cons,zkv l k,Nat.succ_mul]
  rfl
theorem zlb:∀ (l:List Ava) (k:Nat),((l.take k).map zay).flatten=(l.map zay).flatten.take (k * 2)
 | [],k=>by simp
 | a::l,0=>by simp
 | a::l,k+1=>by
  rw [List.take_succ_cons,List.map_cons,List.flatten_cons,zlb l k,Nat.succ_mul]
  rfl
theorem ziA {S:Nat→Prop} {w:World} {A:Option Addr} {n c:Nat} {l:List Ava} (h:Row Elem.ava S w A n c l) (k:Nat):Cells w (cutA A k c 2) ((l.drop k).map zay).flatten:=by
 rw [zkv]
 exact (zhM h).cut2 (by rw [zdm,← h.len];have:=h.cap;omega)
theorem ziu {S:Nat→Prop} {w:World} {A:Option Addr} {n c:Nat} {l:List Ava} (h:Row Elem.ava S w A n c l) (k:Nat):Cells w (cutA A 0 c 2) ((l.take k).map zay).flatten:=by
 rw [zlb]
 have:=((zhM h).cut2 (k:=0) (cap:=c) (by rw [zdm,← h.len];have:=h.cap;omega)).take (k * 2)
 simpa using this
theorem zlL {a:Ava}:∀ {o:List Ava} {k:Nat},k≤o.length→(∀ i y,i<k→o[i]?=some y→ltB y.type a.type=true)→(∀ y,o[k]?=some y→ltB y.type a.type=false)→insA a o=o.take k++a::o.drop k
 | [],k,h,_,_=>by simp at h;subst h;rfl
 | b::t,0,_,_,h2=>by
  have:=h2 b rfl
  simp [insA,this]
 | b::t,k+1,h,h1,h2=>by
  have hb:=h1 0 b (by omega) rfl
  have ih:=zlL (a:=a) (o:=t) (k:=k) (by simpa using h) (fun i y hi hy=>h1 (i+1) y (by omega) (by simpa using hy)) (fun y hy=>h2 y (by simpa using hy))
  simp [insA,hb,ih]
theorem znj (l:List Ava) (a:Ava):zcC (l++[a])=insA a (zcC l):=by simp [zcC]
end Go.Proofs.YtioglicfndkgiaaGreatDoor
