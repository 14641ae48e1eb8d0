/- Lemmas of the walk. -/
import Derived.Test.YtioglicfndkgiaaGreatDoorZ13
import Derived.Test.YtioglicfndkgiaaGreatDoorZ11
import Derived.Deep.WholeRow
import Derived.Lib.AsciiSet
import Derived.Test.YtioglicfndkgiaaGreatDoorZ12
import Derived.Laws.Runes
import Derived.Laws.RangeString
import Derived.LoopN
import Derived.Shelf.Unicode.DecodeSlow
import Derived.Scope
set_option maxHeartbeats 40000000
set_option linter.unusedVariables false
set_option linter.unusedSimpArgs false
namespace Go.Proofs.YtioglicfndkgiaaGreatDoor
open Go.RowKit
set_option maxRecDepth 100000
theorem zhI (s old new:ByteArray) (r:List UInt8) (w:World) (hG:Gl w) (hs:s.size<100) (h1:1≤old.size) (h2:Lib.countB s old * new.size≤1000) (hr:Lib.replace s.data.toList old.data.toList new.data.toList 1=r) :
 Calls Tryz.prog 203 #[.string s,.string old,.string new,.int .i64 1] w fun e w'=>e=.returned (.string (str r))∧Ext w w':=by
 obtain ⟨m,hm⟩:=hG.maxlen
 refine (Tryz.strings_Replace s old new 1 m w (by omega) hm h1 (by omega)).mono ?_
 rintro e w' ⟨rfl,hx⟩
 rw [hr]
 exact ⟨rfl,hx⟩
theorem zmk (w:World) (hG:Gl w):Calls Tryz.prog 203 #[.string (str [49]++⟨#[105]⟩),.string ⟨#[49]⟩,.string ⟨#[]⟩,.int .i64 1] w fun e w'=>e=.returned (.string (str [105]))∧Ext w w':=
 zhI _ _ _ _ w hG (by decide) (by decide) (by decide) (by decide)
theorem zj3 (w:World) (hG:Gl w):Calls Tryz.prog 203 #[.string (str [45,49]++⟨#[105]⟩),.string ⟨#[49]⟩,.string ⟨#[]⟩,.int .i64 1] w fun e w'=>e=.returned (.string (str [45,105]))∧Ext w w':=
 zhI _ _ _ _ w hG (by decide) (by decide) (by decide) (by decide)
theorem zfi (a b:Int):zaF a b=(decide (a.natAbs≤1000000) && decide (b.natAbs≤1000000)):=by
 unfold zaF
 by_cases h1:a.natAbs≤1000000 <;> by_cases h2:b.natAbs≤1000000 <;> simp [h1,h2] <;> omega
theorem zjI {a b:Int} (ha:a.natAbs<9007199254740992) (hb:b.natAbs<9007199254740992):((FloatKind.f64).format.order (zax a) (zax b)==some .eq)=decide (a=b):=by
 rw [zfJ ha hb]
 rcases Int.lt_trichotomy a b with h | h | h
 ·have hn:a≠b:=by omega
  rw [(Int.compare_eq_lt).2 h];simp [hn]
 ·rw [(Int.compare_eq_eq).2 h];simp [h]
 ·have hn:a≠b:=by omega
  rw [(Int.compare_eq_gt).2 h];simp [hn]
theorem zr1 {a b:Int} (ha:a.natAbs<9007199254740992) (hb:b.natAbs<9007199254740992):((FloatKind.f64).format.order (zax a) (zax b)==some .gt)=decide (b<a):=by
 rw [zfJ ha hb]
 rcases Int.lt_trichotomy a b with h | h | h
 ·have hn:¬ b<a:=by omega
  rw [(Int.compare_eq_lt).2 h];simp [hn]
 ·have hn:¬ b<a:=by omega
  rw [(Int.compare_eq_eq).2 h];simp [hn]
 ·rw [(Int.compare_eq_gt).2 h];simp [h]
theorem zrp:Lib.itoa 1=[49]:=by
 unfold Lib.itoa
 rw [if_neg (by decide),zcp (by decide)]
 decide
theorem zob:Lib.itoa (-1)=[45,49]:=by
 unfold Lib.itoa
 rw [if_pos (by decide),zcp (by decide)]
 decide
def PhPrintSays (a b:Int) (w:World) (e:Ending) (w':World):Prop:=e=.returned (.tuple #[.string (str (if zaF a b then zaX a b else [])),.int .i64 (if zaF a b then 0 else 1)])∧Ext w w'
theorem PhPrintSays.of {a b:Int} {w w':World} {l:List UInt8} (h:zaF a b=true) (hl:zaX a b=l) (hx:Ext w w'):PhPrintSays a b w (.returned (.tuple #[.string (str l),.int .i64 0])) w':=⟨by rw [h,← hl];rfl,hx⟩
theorem zbz {a b:Int} (ha:a.natAbs<9007199254740992) (hb:b.natAbs<9007199254740992) (w:World) (hG:Gl w):Calls Tryz.prog 175 #[.complex .f64 (zax a) (zax b)] w (PhPrintSays a b w):=by
 have HG:=hid hG
 have h1:=fun w=>zkj ha hb w
 have hia:=fun w hG=>zhs ha w hG
 have hib:=fun w hG=>zhs hb w hG
 have e0:((FloatKind.f64).format.order (zax b) 0==some .eq)=decide (b=0):=by rw [← zc6];exact zjI hb (by decide)
 have e1:((FloatKind.f64).format.order (zax b) 4607182418800017408==some .eq)=decide (b=1):=by rw [← zqm];exact zjI hb (by decide)
 have e2:((FloatKind.f64).format.order (zax b) 13830554455654793216==some .eq)=decide (b = -1):=by rw [← zn4];exact zjI hb (by decide)
 have e3:((FloatKind.f64).format.order (zax a) 0==some .eq)=decide (a=0):=by rw [← zc6];exact zjI ha (by decide)
 have e4:((FloatKind.f64).format.order (zax b) 0==some .gt)=decide (0<b):=by rw [← zc6];exact zr1 hb (by decide)
 simp only [← zfi] at h1
 generalize zax a=x at *
 generalize zax b=y at *
 clear hG
 cases hW:zaF a b with
 | false=>
  rw [hW] at h1
  have HS:∀ w',Ext w w'→PhPrintSays a b w (.returned (.tuple #[.string ⟨#[]⟩,.int .i64 1])) w':=fun w' hx=>⟨by rw [hW];rfl,hx⟩
  generalize PhPrintSays a b w=R at *
  clear e0 e1 e2 e3 e4 hia hib hW
  go_enter Tryz.func175,Tryz.ntmps175
  go_wp2_with (go_at_call 201;(with_reducible refine (h1 _).mono ?_);rintro e w1 ⟨rfl,rfl⟩)
  exact Ext.refl _
 | true=>
  rw [hW] at h1
  have HS:∀ {l w'},zaX a b=l→Ext w w'→PhPrintSays a b w (.returned (.tuple #[.string (str l),.int .i64 0])) w':=fun hl hx=>PhPrintSays.of hW hl hx
  have HP:Hid (∀ l,zaX a b=l ↔ (if b=0 then Lib.itoa a else if a=0 then zaK b else if 0<b then Lib.itoa a++43::zaK b else Lib.itoa a++zaK b)=l):=fun l=>Iff.rfl
  have HS2:∀ {s w'},s=str (zaX a b)→Ext w w'→PhPrintSays a b w (.returned (.tuple #[.string s,.int .i64 0])) w':=fun hs hx=>by rw [hs];exact HS rfl hx
  have HB:a.natAbs≤1000000∧b.natAbs≤1000000:=by rw [zfi] at hW;simpa using hW
  clear hW
  generalize PhPrintSays a b w=R at *
  by_cases b0:b=0
  ·have t0:((FloatKind.f64).format.order y 0==some .eq)=true:=by rw [e0];simp [b0]
   have HL:Hid (zaX a b=Lib.itoa a):=by show _=_;unfold zaX;rw [if_pos b0]
   clear e0 e1 e2 e3 e4 hib b0 HP
   go_enter Tryz.func175,Tryz.ntmps175
   go_wp2_with (first
    | (go_at_call 201;(with_reducible refine (h1 _).mono ?_);rintro e w1 ⟨rfl,rfl⟩)
    | (go_at_call 202;(with_reducible refine (hia _ HG.out).mono ?_);rintro e w1 ⟨rfl,hx⟩))
   exact HS HL.out hx
  ·have t0:((FloatKind.f64).format.order y 0==some .eq)=false:=by rw [e0];simp [b0]
   have hab:a.natAbs≤1000000∧b.natAbs≤1000000:=HB
   have HL1:Hid (a=0→zaX a b=zaK b):=fun h=>by unfold zaX;rw [if_neg b0,if_pos h]
   have HL2:Hid (a≠0→0<b→zaX a b=Lib.itoa a++43::zaK b):=fun h h'=>by unfold zaX;rw [if_neg b0,if_neg h,if_pos h']
   have HL3:Hid (a≠0→¬ 0<b→zaX a b=Lib.itoa a++zaK b):=fun h h'=>by unfold zaX;rw [if_neg b0,if_neg h,if_neg h']
   have z1:¬ 9223372036854775807<(Lib.itoa b).length+1:=by have:=zeD b;omega
   have z2:¬ 9223372036854775807<1+(zaK b).length:=by have:=zei b;omega
   have z3:¬ 9223372036854775807<(Lib.itoa a).length+(zaK b).length:=by have:=zeD a;have:=zei b;omega
   have z4:¬ 9223372036854775807<(Lib.itoa a).length+(1+(zaK b).length):=by have:=zeD a;have:=zei b;omega
   have HX:=hid (Ext.refl w)
   clear e0 HP hab
   by_cases b1:b=1
   ·have HSB:zaK b=[105]:=by rw [b1];decide
    have HIB:Lib.itoa b=[49]:=by rw [b1];exact zrp
    have t4:((FloatKind.f64).format.order y 0==some .gt)=true:=by rw [e4,b1];decide
    have t1:((FloatKind.f64).format.order y 4607182418800017408==some .eq)=true:=by rw [e1];simp [b1]
    rw [HSB] at HL1 HL2 HL3 z2 z3 z4
    rw [HIB] at hib z1
    simp only [List.length_append,List.length_cons,List.length_nil] at z1 z2 z3 z4
    have HBP:Hid ( 0<b):=by show  0<b;omega
    clear HSB HIB e1 e2 e4 b0 b1
    go_enter Tryz.func175,Tryz.ntmps175
    go_wp2_with (first
     | (go_at_call 201;(with_reducible refine (h1 _).mono ?_);rintro e w1 ⟨rfl,rfl⟩)
     | (go_at_call 202;(with_reducible refine (hib _ (HG.out.ext HX.out)).mono ?_);rintro e w1 ⟨rfl,hx⟩;have HX:=hid (HX.out.trans hx);clear hx)
     | (go_at_call 203;(with_reducible refine (zmk _ (HG.out.ext HX.out)).mono ?_);rintro e w1 ⟨rfl,hx⟩;have HX:=hid (HX.out.trans hx);clear hx)
     | (go_at_call 202;(with_reducible refine (hia _ (HG.out.ext HX.out)).mono ?_);rintro e w1 ⟨rfl,hx⟩;have HX:=hid (HX.out.trans hx);clear hx))
    all_goals clear h1 hia hib t0 z1 z2 z3 z4 e3 HS
    all_goals refine HS2 ?_ HX.out
    ·rw [HL1.out (by assumption)];try rfl
    ·rw [HL2.out (by assumption) HBP.out,show (43:UInt8)::[105]=[43]++[105] from rfl,← zbg,← zbg];try rfl
   ·by_cases b2:b = -1
    ·have HSB:zaK b=[45,105]:=by rw [b2];decide
     have HIB:Lib.itoa b=[45,49]:=by rw [b2];exact zob
     have t4:((FloatKind.f64).format.order y 0==some .gt)=false:=by rw [e4,b2];decide
     have t1:((FloatKind.f64).format.order y 4607182418800017408==some .eq)=false:=by rw [e1];simp [b2]
     have t2:((FloatKind.f64).format.order y 13830554455654793216==some .eq)=true:=by rw [e2];simp [b2]
     rw [HSB] at HL1 HL2 HL3 z2 z3 z4
     rw [HIB] at hib z1
     simp only [List.length_append,List.length_cons,List.length_nil] at z1 z2 z3 z4
     have HBP:Hid (¬ 0<b):=by show ¬ 0<b;omega
     clear HSB HIB e1 e2 e4 b0 b2
     go_enter Tryz.func175,Tryz.ntmps175
     go_wp2_with (first
      | (go_at_call 201;(with_reducible refine (h1 _).mono ?_);rintro e w1 ⟨rfl,rfl⟩)
      | (go_at_call 202;(with_reducible refine (hib _ (HG.out.ext HX.out)).mono ?_);rintro e w1 ⟨rfl,hx⟩;have HX:=hid (HX.out.trans hx);clear hx)
      | (go_at_call 203;(with_reducible refine (zj3 _ (HG.out.ext HX.out)).mono ?_);rintro e w1 ⟨rfl,hx⟩;have HX:=hid (HX.out.trans hx);clear hx)
      | (go_at_call 202;(with_reducible refine (hia _ (HG.out.ext HX.out)).mono ?_);rintro e w1 ⟨rfl,hx⟩;have HX:=hid (HX.out.trans hx);clear hx))
     all_goals clear h1 hia hib t0 z1 z2 z3 z4 e3 HS
     all_goals refine HS2 ?_ HX.out
     ·rw [HL1.out (by assumption)];try rfl
     ·rw [HL3.out (by assumption) (by have:=HBP.out;omega),← zbg];try rfl
    ·have t1:((FloatKind.f64).format.order y 4607182418800017408==some .eq)=false:=by rw [e1];simp [b1]
     have t2:((FloatKind.f64).format.order y 13830554455654793216==some .eq)=false:=by rw [e2];simp [b2]
     have HSB:zaK b=Lib.itoa b++[105]:=by unfold zaK;rw [if_neg b1,if_neg b2]
     rw [HSB] at HL1 HL2 HL3 z2 z3 z4
     simp only [List.length_append,List.length_cons,List.length_nil] at z2 z3 z4
     clear HSB e1 e2 b0 b1 b2
     go_enter Tryz.func175,Tryz.ntmps175
     go_wp2_with (first
      | (go_at_call 201;(with_reducible refine (h1 _).mono ?_);rintro e w1 ⟨rfl,rfl⟩)
      | (go_at_call 202;(with_reducible refine (hib _ (HG.out.ext HX.out)).mono ?_);rintro e w1 ⟨rfl,hx⟩;have HX:=hid (HX.out.trans hx);clear hx)
      | (go_at_call 202;(with_reducible refine (hia _ (HG.out.ext HX.out)).mono ?_);rintro e w1 ⟨rfl,hx⟩;have HX:=hid (HX.out.trans hx);clear hx))
     all_goals clear h1 hia hib t0 t1 t2 z1 z2 z3 z4 e3 e4 HS
     all_goals refine HS2 ?_ HX.out
     ·rw [HL1.out (by assumption),← zbg];try rfl
     ·rw [HL2.out (by assumption) (by assumption),show 43::(Lib.itoa b++[105])=[43]++(Lib.itoa b++[105]) from rfl,← zbg,← zbg,← zbg];try rfl
     ·rw [HL3.out (by assumption) (by omega),← zbg,← zbg];try rfl
end Go.Proofs.YtioglicfndkgiaaGreatDoor
namespace Go.Proofs.YtioglicfndkgiaaGreatDoor
open Go.RowKit
set_option maxRecDepth 1000000
def zb6 (v:List UInt8):Nat→Int
 | 0=>-1
 | i+1=>if [43,45].contains (v[i]?.getD 0) then i else zb6 v i
theorem zqA (w:World):(zeroValue 247).run Tryz.prog w=.ok (.agg (Array.replicate 256 (.bool false))) w:=
 (zero_of_info (P:=Tryz.prog) (t:=247) (v:=.agg (Array.replicate 256 (.bool false))) (n:=256) (by kernel_rfl)).1 w
theorem zrx:(Tryz.prog.info? 247).map (·.size)=some 256:=
 (zero_of_info (P:=Tryz.prog) (t:=247) (v:=.agg (Array.replicate 256 (.bool false))) (n:=256) (by kernel_rfl)).2
theorem zgN (s:ByteArray) (w:World) (h8:8<s.size) (hs:s.size≤4000000) :
 Calls Tryz.prog 173 #[.string s,.string ⟨#[43,45]⟩] w fun e w'=>e=.returned (.int .i64 (zb6 (bys s) s.size))∧Ext w w':=by
 have hM:=Tryz.strings_makeASCIISet zqA ⟨#[43,45]⟩ w (by decide) (by intro j b h;match j,h with | 0,h=>(cases h;decide) | 1,h=>(cases h;decide))
 have h8z:decide ((8:Int)<(s.size:Int))=true:=decide_eq_true (by omega)
 have hU:=fun w=>Tryz.strings_shouldUseASCIISet s.size w
 simp only [h8z] at hU
 obtain ⟨S,hS⟩:∃ S,Lib.setCells [43,45]=S:=⟨_,rfl⟩
 have hS':Lib.setCells (⟨#[43,45]⟩:ByteArray).data.toList=S:=hS
 rw [hS'] at hM
 have hS1:S.size=256:=by rw [← hS];exact Lib.setCells_size _
 obtain ⟨w1,hw1⟩:∃ w1,w.alloc (.cells S 247)=w1:=⟨_,rfl⟩
 rw [hw1] at hM
 have HX1:=hid (show Ext w w1 by rw [← hw1];exact Ext.alloc _ _)
 have hsc:(storeCells ⟨w1.heap.size,0,none⟩ S.toList 0).run Tryz.prog (w1.alloc (.cells (Array.replicate 256 (.bool false)) 247))=.ok () (w1.alloc (.cells S 247)):=by
  have:=run_storeCells_new (P:=Tryz.prog) w1 247 (Array.replicate 256 (.bool false)) S (by rw [hS1];exact zrx) (by rw [hS1,Array.size_replicate]) (by rw [← hS];exact Lib.setCells_one _)
  simpa using this
 have HC:Hid (∀ x:UInt8,(w1.alloc (.cells S 247)).cell? ⟨w1.heap.size,x.toNat,none⟩=some (.bool ([43,45].contains x))):=fun x=>by
  rw [World.cell?_alloc_at _ _ _ _ (by simp),← hS,Lib.setCells_at]
 have HX2:=hid (HX1.out.trans (Ext.alloc w1 (.cells S 247)))
 clear hS hS' hw1
 go_enter Tryz.func173,Tryz.ntmps173
 go_wp2_with (first
  | (go_at_call 197;(with_reducible refine (hU _).mono ?_);rintro e w2 ⟨rfl,rfl⟩)
  | (go_at_call 198;(with_reducible refine hM.mono ?_);rintro e w2 ⟨rfl,rfl⟩))
 have hz:Tryz.zeroCells247=Array.replicate 256 (.bool false):=by kernel_rfl
 rw [hz,hsc]
 clear hU hM hsc hz
 simp only [Result.andThen]
 rw [Oper.upon_skip]
 generalize w2.heap.size=B at *
 generalize w2.alloc (.cells S 247)=w3 at *
 go_wp2
 go_loopw [8] (fun i wr=>∃ (j:Nat),j≤s.size∧i=.int .i64 ((j:Int)-1)∧wr=w3∧Hid (zb6 (bys s) s.size=zb6 (bys s) j)) (fun i _=>(intOf i+1).toNat)
 case atStart=>exact ⟨s.size,by omega,rfl,rfl,rfl⟩
 case round=>
  obtain ⟨j,hj,rfl,rfl,hl⟩:=hrel
  cases j with
  | zero=>
   have hd:decide ((0:Int)≤((0:Nat):Int)-1)=false:=by decide
   go_wp2
   go_ret
   exact ⟨by rw [hl.out];rfl,HX2.out⟩
  | succ k=>
   have hi:k<s.size:=by omega
   obtain ⟨x,hx⟩:∃ x:UInt8,s[k]'hi=x:=⟨_,rfl⟩
   have hxl:(bys s)[k]?.getD 0=x:=by rw [← hx,Lib.data_getElem? s k hi];rfl
   have HL:Hid (zb6 (bys s) (k+1)=if [43,45].contains x then (k:Int) else zb6 (bys s) k):=by
    show zb6 (bys s) (k+1)=_
    rw [zb6,hxl]
   have hcx:=HC.out x
   have hk:((k+1:Nat):Int)-1=(k:Int):=by omega
   rw [hk]
   clear hxl hk
   cases hin:[43,45].contains x <;> rw [hin] at hcx HL
   ·go_wp2_with (go_at_call 199;(with_reducible refine (Tryz.asciiSet_contains B x _ _ hcx).mono ?_);rintro e w4 ⟨rfl,rfl⟩)
    exact ⟨⟨k,by omega,by go_num,by first | rfl | trivial,by show _=_;rw [hl.out,HL.out];try rfl⟩,by simp [intOf] <;> omega⟩
   ·go_wp2_with (go_at_call 199;(with_reducible refine (Tryz.asciiSet_contains B x _ _ hcx).mono ?_);rintro e w4 ⟨rfl,rfl⟩)
    go_ret
    exact ⟨by rw [hl.out,HL.out];rfl,HX2.out⟩
theorem zj9 (s:ByteArray) (w:World) (h0:s.size=0) :
 Calls Tryz.prog 173 #[.string s,.string ⟨#[43,45]⟩] w fun e w'=>e=.returned (.int .i64 (-1))∧Ext w w':=by
 have h8z:decide ((8:Int)<(s.size:Int))=false:=decide_eq_false (by omega)
 have hU:=fun w=>Tryz.strings_shouldUseASCIISet s.size w
 simp only [h8z] at hU
 have h1:((s.size:Int)==1)=false:=by rw [beq_eq_false_iff_ne];omega
 have H0:=hid h0
 clear h0 h8z
 go_enter Tryz.func173,Tryz.ntmps173
 go_wp2_with (go_at_call 197;(with_reducible refine (hU _).mono ?_);rintro e w2 ⟨rfl,rfl⟩)
 clear hU
 go_loopw [13] (fun i wr=>i=.int .i64 0∧wr=w2) (fun i _=>0)
 case atStart=>exact ⟨by rw [H0.out];rfl,rfl⟩
 case round=>
  obtain ⟨rfl,rfl⟩:=hrel
  go_wp2
  go_ret
  exact ⟨rfl,Ext.refl _⟩
theorem zmh (s:ByteArray) (w:World) (h1:s.size=1) (x:UInt8) (hx:s[0]'(by omega)=x) (hx8:x.toNat<128) :
 Calls Tryz.prog 173 #[.string s,.string ⟨#[43,45]⟩] w fun e w'=>e=.returned (.int .i64 (if [43,45].contains x then 0 else -1))∧Ext w w':=by
 have h1':((s.size:Int)==1)=true:=by rw [beq_iff_eq];omega
 have hz:¬ (128:Int)≤(x.toNat:Int):=by omega
 have hR:=fun w=>Tryz.strings_IndexRune_ascii ⟨#[43,45]⟩ x.toNat w (by omega) (by omega)
 have hb:((x.toNat:Int)).toNat.toUInt8=x:=by simp
 rw [hb] at hR
 have hcon:=Lib.contains_iff_indexByte [43,45] x
 have he:(⟨#[43,45]⟩:ByteArray).data.toList=[43,45]:=rfl
 rw [he] at hR
 have hs0:0<s.size:=by omega
 cases hin:[43,45].contains x
 ·rw [hin] at hcon
  have hlt:¬ ((0:Int)≤Lib.indexByte [43,45] x):=of_decide_eq_false hcon.symm
  clear hcon hin
  go_enter Tryz.func173,Tryz.ntmps173
  go_wp2_with (go_at_call 196;(with_reducible refine (hR _).mono ?_);rintro e w2 ⟨rfl,rfl⟩)
  all_goals go_ret
  all_goals exact ⟨rfl,Ext.refl _⟩
 ·rw [hin] at hcon
  have hge:(0:Int)≤Lib.indexByte [43,45] x:=of_decide_eq_true hcon.symm
  clear hcon hin
  go_enter Tryz.func173,Tryz.ntmps173
  go_wp2_with (go_at_call 196;(with_reducible refine (hR _).mono ?_);rintro e w2 ⟨rfl,rfl⟩)
  all_goals go_ret
  all_goals exact ⟨rfl,Ext.refl _⟩
theorem zib (s:ByteArray) (w:World) (n:Nat) (hn:s.size=n+1) (hs:s.size≤4000000) (x:UInt8) (hxs:(bys s)[n]?=some x) (hx8:x.toNat<128) :
 Calls Tryz.prog 200 #[.string s] w fun e w'=>e=.returned (.tuple #[.int .i32 x.toNat,.int .i64 1])∧w'=w:=by
 have hz:((s.size:Int)==0)=false:=by rw [beq_eq_false_iff_ne];omega
 have hp:((s.size:Int)-1)=(n:Int):=by omega
 have hlt:n<s.size:=by omega
 have h8:(x.toNat:Int)<128:=by omega
 have hx:s[n]'hlt=x:=by
  have:=Lib.data_getElem? s n hlt
  have e:(bys s)[n]?=some (s[n]'hlt):=this
  rw [hxs] at e
  exact (Option.some.inj e).symm
 have hnb:n<4000000:=by omega
 clear hxs hn
 go_enter Tryz.func200,Tryz.ntmps200
 go_wp2
 go_ret2
 exact ⟨rfl,rfl⟩
theorem zjD (s:ByteArray) (w:World) (h2:2≤s.size) (h8:s.size≤8) (hascii:∀ (j:Nat) b,(bys s)[j]?=some b→b.toNat<128) :
 Calls Tryz.prog 173 #[.string s,.string ⟨#[43,45]⟩] w fun e w'=>e=.returned (.int .i64 (zb6 (bys s) s.size))∧Ext w w':=by
 have h8z:decide ((8:Int)<(s.size:Int))=false:=decide_eq_false (by omega)
 have hU:=fun w=>Tryz.strings_shouldUseASCIISet s.size w
 simp only [h8z] at hU
 have h1:((s.size:Int)==1)=false:=by rw [beq_eq_false_iff_ne];omega
 have HA:=hid hascii
 clear hascii h8z
 go_enter Tryz.func173,Tryz.ntmps173
 go_wp2_with (go_at_call 197;(with_reducible refine (hU _).mono ?_);rintro e w2 ⟨rfl,rfl⟩)
 clear hU
 go_loopw [13] (fun i wr=>∃ (j:Nat),j≤s.size∧i=.int .i64 (j:Int)∧wr=w2∧Hid (zb6 (bys s) s.size=zb6 (bys s) j)) (fun i _=>(intOf i).toNat)
 case atStart=>exact ⟨s.size,by omega,rfl,rfl,rfl⟩
 case round=>
  obtain ⟨j,hj,rfl,rfl,hl⟩:=hrel
  cases j with
  | zero=>
   go_wp2
   go_ret
   exact ⟨by rw [hl.out];rfl,Ext.refl _⟩
  | succ k=>
   have hi:k<s.size:=by omega
   obtain ⟨x,hx⟩:∃ x:UInt8,s[k]'hi=x:=⟨_,rfl⟩
   have hxs:(bys s)[k]?=some x:=by rw [← hx];exact Lib.data_getElem? s k hi
   have hx8:=HA.out k x hxs
   have HL:Hid (zb6 (bys s) (k+1)=if [43,45].contains x then (k:Int) else zb6 (bys s) k):=by
    show zb6 (bys s) (k+1)=_
    rw [zb6,hxs];rfl
   have hk:(0:Int)<((k+1:Nat):Int):=by omega
   have hks:¬ (s.size:Int)<((k+1:Nat):Int):=by omega
   have hR:=fun w=>Tryz.strings_IndexRune_ascii ⟨#[43,45]⟩ x.toNat w (by omega) (by omega)
   have hb:((x.toNat:Int)).toNat.toUInt8=x:=by simp
   rw [hb] at hR
   have hcon:=Lib.contains_iff_indexByte [43,45] x
   have he:(⟨#[43,45]⟩:ByteArray).data.toList=[43,45]:=rfl
   rw [he] at hR
   have hLR:=fun w=>zib (s.extract 0 (k+1)) w k (by rw [ByteArray.size_extract];omega) (by rw [ByteArray.size_extract];omega) x (by rw [zeu,List.drop_zero,Nat.sub_zero,List.getElem?_take];rw [if_pos (by omega)];exact hxs) hx8
   clear hxs
   cases hin:[43,45].contains x
   ·rw [hin] at hcon HL
    have hlt:¬ ((0:Int)≤Lib.indexByte [43,45] x):=of_decide_eq_false hcon.symm
    have hlt2:decide ((0:Int)≤Lib.indexByte [43,45] x)=false:=hcon.symm
    clear hcon hin
    go_wp2_with (first
     | (go_at_call 200;(with_reducible refine (hLR _).mono ?_);rintro e w4 ⟨rfl,rfl⟩)
     | (go_at_call 196;(with_reducible refine (hR _).mono ?_);rintro e w4 ⟨rfl,rfl⟩))
    exact ⟨⟨k,by omega,by go_num,by first | rfl | trivial,by show _=_;rw [hl.out,HL.out];try rfl⟩,by simp [intOf] <;> omega⟩
   ·rw [hin] at hcon HL
    have hge:(0:Int)≤Lib.indexByte [43,45] x:=of_decide_eq_true hcon.symm
    clear hcon hin
    go_wp2_with (first
     | (go_at_call 200;(with_reducible refine (hLR _).mono ?_);rintro e w4 ⟨rfl,rfl⟩)
     | (go_at_call 196;(with_reducible refine (hR _).mono ?_);rintro e w4 ⟨rfl,rfl⟩))
    go_ret
    exact ⟨by rw [hl.out,HL.out];rfl,Ext.refl _⟩
theorem zi5 (s:ByteArray) (w:World) (hs:s.size≤4000000) (hascii:∀ (j:Nat) b,(bys s)[j]?=some b→b.toNat<128) :
 Calls Tryz.prog 173 #[.string s,.string ⟨#[43,45]⟩] w fun e w'=>e=.returned (.int .i64 (zb6 (bys s) s.size))∧Ext w w':=by
 by_cases h0:s.size=0
 ·have:=zj9 s w h0
  rw [h0]
  exact this
 ·by_cases h1:s.size=1
  ·have hd:=Lib.data_getElem? s 0 (by omega)
   have:=zmh s w h1 _ rfl (hascii 0 _ hd)
   have hd':(bys s)[(0:Nat)]?=some (s[0]'(by omega)):=hd
   have e:zb6 (bys s) 1=if ([43,45]:List UInt8).contains (s[0]'(by omega)) then 0 else -1:=by rw [zb6,hd'];rfl
   rw [h1,e]
   exact this
  ·by_cases h8:s.size≤8
   ·exact zjD s w (by omega) h8 hascii
   ·exact zgN s w (by omega) hs
end Go.Proofs.YtioglicfndkgiaaGreatDoor
namespace Go.Proofs.YtioglicfndkgiaaGreatDoor
set_option maxRecDepth 10000
theorem zir {c:UInt8} (h:digC c=true):([43,45]:List UInt8).contains c=false:=by
 have h1:=(zaR c).1 h
 have a1:(c==43)=false:=by rw [beq_eq_false_iff_ne];intro e;rw [e] at h1;exact absurd h1.1 (by decide)
 have a2:(c==45)=false:=by rw [beq_eq_false_iff_ne];intro e;rw [e] at h1;exact absurd h1.1 (by decide)
 simp [List.contains,List.elem,a1,a2]
theorem zp7 {d:List UInt8} (h:d.all digC=true) {k:Nat} (hk:k<d.length):digC (d[k]?.getD 0)=true:=by
 rw [List.getElem?_eq_getElem hk]
 exact List.all_eq_true.1 h _ (List.getElem_mem hk)
theorem ziH {d:List UInt8} (h:d.all digC=true):∀ k,k≤d.length→zb6 d k = -1
 | 0,_=>rfl
 | k+1,hk=>by
  rw [zb6,zir (zp7 h (by omega))]
  exact ziH h k (by omega)
theorem zkO (p:List UInt8) {d:List UInt8} {c:UInt8} (hc:([43,45]:List UInt8).contains c=true) (h:d.all digC=true):∀ k,k≤d.length→zb6 (p++c::d) (p.length+1+k)=p.length
 | 0,_=>by
  have e:(p++c::d)[p.length]?.getD 0=c:=by simp
  show zb6 (p++c::d) (p.length+1)=_
  rw [zb6,e,hc];rfl
 | k+1,hk=>by
  have e:(p++c::d)[p.length+1+k]?.getD 0=d[k]?.getD 0:=by
   rw [List.getElem?_append_right (by omega),show p.length+1+k-p.length=k+1 by omega,List.getElem?_cons_succ]
  show zb6 (p++c::d) (p.length+1+k+1)=_
  rw [zb6,e,zir (zp7 h (by omega))]
  exact zkO p hc h k (by omega)
def atP (t:List UInt8):Nat:=(max (zb6 t t.length) 0).toNat
theorem zmA {d:List UInt8} (h:d.all digC=true):atP d=0:=by
 unfold atP;rw [ziH h _ (Nat.le_refl _)];rfl
theorem zlq (p:List UInt8) {d:List UInt8} {c:UInt8} (hc:([43,45]:List UInt8).contains c=true) (h:d.all digC=true):atP (p++c::d)=p.length:=by
 have:=zkO p hc h d.length (Nat.le_refl _)
 unfold atP
 rw [show (p++c::d).length=p.length+1+d.length by simp;omega,this]
 omega
def zfB (v:List UInt8):List UInt8:=if v.getLast?=some 105 then (if v.dropLast.take (atP v.dropLast)=[] then [48] else v.dropLast.take (atP v.dropLast)) else v
def zd3 (v:List UInt8):List UInt8:=
 if v.getLast?=some 105 then (if v.dropLast.drop (atP v.dropLast)=[]∨v.dropLast.drop (atP v.dropLast)=[43]∨v.dropLast.drop (atP v.dropLast)=[45] then v.dropLast.drop (atP v.dropLast)++[49] else v.dropLast.drop (atP v.dropLast)) else [48]
theorem zje (t:List UInt8):zfB (t++[105])=if t.take (atP t)=[] then [48] else t.take (atP t):=by
 unfold zfB;rw [if_pos (by simp),List.dropLast_concat]
theorem zjB (t:List UInt8):zd3 (t++[105])=if t.drop (atP t)=[]∨t.drop (atP t)=[43]∨t.drop (atP t)=[45] then t.drop (atP t)++[49] else t.drop (atP t):=by
 unfold zd3;rw [if_pos (by simp),List.dropLast_concat]
theorem zkP {p d:List UInt8} {c:UInt8} (hp:p≠[]) (hc:([43,45]:List UInt8).contains c=true) (h:d.all digC=true):zfB (p++c::d++[105])=p:=by
 rw [zje,zlq p hc h,List.take_left,if_neg hp]
theorem zgw {p d:List UInt8} {c:UInt8} (hc:([43,45]:List UInt8).contains c=true) (h:d.all digC=true):zd3 (p++c::d++[105])=if d=[] then [c,49] else c::d:=by
 rw [zjB,zlq p hc h,List.drop_left]
 by_cases hd:d=[]
 ·subst hd
  have:c=43∨c=45:=by
   have hm:c∈([43,45]:List UInt8):=List.contains_iff_mem.1 hc
   simpa using hm
  rw [if_pos rfl]
  rcases this with rfl | rfl <;> rfl
 ·rw [if_neg hd,if_neg (by simp [hd])]
theorem no_i {v:List UInt8} {c:UInt8} (h:v.getLast?=some c) (hc:digC c=true):v.getLast?≠some 105:=by
 rw [h]
 intro e
 have:=(zaR c).1 hc
 rw [Option.some.inj e] at this
 exact absurd this.2 (by decide)
theorem zmO (u:Nat):∃ c,(Lib.decDigits u).getLast?=some c∧digC c=true:=by
 obtain ⟨h1,-,h3⟩:=zcw u u (Nat.le_refl _)
 exact ⟨_,List.getLast?_eq_some_getLast h3,List.all_eq_true.1 h1 _ (List.getLast_mem h3)⟩
theorem zhA (a:Int):(Lib.itoa a).getLast?≠some 105:=by
 unfold Lib.itoa
 split
 ·obtain ⟨c,h1,h2⟩:=zmO a.natAbs
  refine no_i (c:=c) ?_ h2
  rw [List.getLast?_cons,h1];rfl
 ·obtain ⟨c,h1,h2⟩:=zmO a.toNat
  exact no_i h1 h2
theorem zfd (a:Int):Lib.itoa a≠[]:=by
 unfold Lib.itoa
 split
 ·simp
 ·exact (zcw _ _ (Nat.le_refl _)).2.2
def phB (v:List UInt8):Option (Int × Int):=
 match Lib.parseIntB 32 (zfB v),Lib.parseIntB 32 (zd3 v) with
 | .ok a,.ok b=>if zaF a b=true∧zaX a b=v then some (a,b) else none
 | _,_=>none
theorem zjU {v:List UInt8} {a b:Int} (h1:Lib.parseIntB 32 (zfB v)=.ok a) (h2:Lib.parseIntB 32 (zd3 v)=.ok b) (hw:zaF a b=true) (hp:zaX a b=v):phB v=some (a,b):=by
 unfold phB
 rw [h1,h2]
 exact if_pos ⟨hw,hp⟩
theorem zmp {v:List UInt8} {a b:Int} (h:phB v=some (a,b)):zaF a b=true∧zaX a b=v:=by
 unfold phB at h
 split at h
 ·split at h
  ·rename_i hc
   cases h
   exact hc
  ·cases h
 ·cases h
theorem dec_one:Lib.decDigits 1=[49]:=by rw [zcp (by decide)];decide
theorem zjP {b:Int} (h:0<b):∃ d:List UInt8,d.all digC=true∧zaK b=d++[105]∧(if d=[] then [49] else d)=Lib.decDigits b.natAbs:=by
 unfold zaK
 by_cases h1:b=1
 ·subst h1
  exact ⟨[],rfl,rfl,dec_one.symm⟩
 ·obtain ⟨x1,-,x3⟩:=zcw b.natAbs b.natAbs (Nat.le_refl _)
  refine ⟨Lib.decDigits b.natAbs,x1,?_,if_neg x3⟩
  rw [if_neg h1,if_neg (by omega)]
  unfold Lib.itoa
  rw [if_neg (by omega),show b.toNat=b.natAbs by omega]
theorem zjK {b:Int} (h:b<0):∃ d:List UInt8,d.all digC=true∧zaK b=45::d++[105]∧(if d=[] then [45,49] else 45::d)=45::Lib.decDigits b.natAbs:=by
 unfold zaK
 by_cases h1:b = -1
 ·subst h1
  exact ⟨[],rfl,rfl,by rw [show (-1:Int).natAbs=1 from rfl,dec_one];rfl⟩
 ·obtain ⟨x1,-,x3⟩:=zcw b.natAbs b.natAbs (Nat.le_refl _)
  refine ⟨Lib.decDigits b.natAbs,x1,?_,if_neg x3⟩
  rw [if_neg (by omega),if_neg h1]
  unfold Lib.itoa
  rw [if_pos h]
theorem zgd:Lib.parseIntB 32 [48]=.ok 0:=by
 have:=zdl (a:=0) (by decide)
 rw [show Lib.itoa 0=[48] by unfold Lib.itoa;rw [if_neg (by decide),zcp (by decide)];decide] at this
 exact this
theorem zfU {a b:Int} (h:zaF a b=true):a.natAbs≤1000000∧b.natAbs≤1000000:=by
 rw [zfi] at h;simpa using h
theorem zko:([43,45]:List UInt8).contains 43=true:=by decide
theorem zeR:([43,45]:List UInt8).contains 45=true:=by decide
theorem zjk {d:List UInt8} (h:d.all digC=true):d≠[43]∧d≠[45]:=by
 constructor <;> · intro e;rw [e] at h;exact absurd h (by decide)
theorem zru {a b:Int} (h:zaF a b=true):phB (zaX a b)=some (a,b):=by
 obtain ⟨ha,hb⟩:=zfU h
 by_cases b0:b=0
 ·subst b0
  have e:zaX a 0=Lib.itoa a:=by unfold zaX;rw [if_pos rfl]
  refine zjU ?_ ?_ h rfl
  ·rw [e];unfold zfB;rw [if_neg (zhA a)];exact zdl ha
  ·rw [e];unfold zd3;rw [if_neg (zhA a)];exact zgd
 ·by_cases a0:a=0
  ·have e:zaX a b=zaK b:=by unfold zaX;rw [if_neg b0,if_pos a0]
   by_cases hp:0<b
   ·obtain ⟨d,d1,d2,d3⟩:=zjP hp
    refine zjU ?_ ?_ h rfl
    ·rw [e,d2,zje,zmA d1,List.take_zero,if_pos rfl,a0];exact zgd
    ·have:(if d=[]∨d=[43]∨d=[45] then d++[49] else d)=Lib.decDigits b.natAbs:=by
      rw [← d3]
      by_cases hd:d=[]
      ·rw [if_pos (.inl hd),if_pos hd,hd];rfl
      ·rw [if_neg hd,if_neg (by rintro (h | h | h);exact hd h;exact (zjk d1).1 h;exact (zjk d1).2 h)]
     rw [e,d2,zjB,zmA d1,List.drop_zero,this,ze6 hb]
     congr 1;omega
   ·obtain ⟨d,d1,d2,d3⟩:=zjK (b:=b) (by omega)
    have e2:zaK b=[]++45::d++[105]:=d2
    refine zjU ?_ ?_ h rfl
    ·rw [e,e2,zje,zlq [] zeR d1,List.length_nil,List.take_zero,if_pos rfl,a0];exact zgd
    ·rw [e,e2,zgw zeR d1,d3,zdd hb 45 (.inr (by decide)),if_pos (by decide)]
     congr 1;omega
  ·by_cases hp:0<b
   ·obtain ⟨d,d1,d2,d3⟩:=zjP hp
    have e:zaX a b=Lib.itoa a++43::d++[105]:=by unfold zaX;rw [if_neg b0,if_neg a0,if_pos hp,d2];simp
    have e3:(if d=[] then [43,49] else 43::d)=43::Lib.decDigits b.natAbs:=by
     rw [← d3];by_cases hd:d=[]
     ·rw [if_pos hd,if_pos hd]
     ·rw [if_neg hd,if_neg hd]
    refine zjU ?_ ?_ h rfl
    ·rw [e,zkP (zfd a) zko d1];exact zdl ha
    ·rw [e,zgw zko d1,e3,zdd hb 43 (.inl (by decide)),if_neg (by decide)]
     congr 1;omega
   ·obtain ⟨d,d1,d2,d3⟩:=zjK (b:=b) (by omega)
    have e:zaX a b=Lib.itoa a++45::d++[105]:=by unfold zaX;rw [if_neg b0,if_neg a0,if_neg hp,d2];simp
    refine zjU ?_ ?_ h rfl
    ·rw [e,zkP (zfd a) zeR d1];exact zdl ha
    ·rw [e,zgw zeR d1,d3,zdd hb 45 (.inr (by decide)),if_pos (by decide)]
     congr 1;omega
theorem zsn (v:List UInt8):(phB v).isSome=true ↔ ∃ a b,zaF a b=true∧zaX a b=v:=by
 constructor
 ·intro h
  obtain ⟨⟨a,b⟩,hq⟩:=Option.isSome_iff_exists.1 h
  exact ⟨a,b,zmp hq⟩
 ·rintro ⟨a,b,h,rfl⟩
  rw [zru h];rfl
end Go.Proofs.YtioglicfndkgiaaGreatDoor
namespace Go.Proofs.YtioglicfndkgiaaGreatDoor
open Go.RowKit
set_option maxRecDepth 100000
def zfR (v:List UInt8) (w:World) (e:Ending) (w':World):Prop:=∃ x y:Nat,e=.returned (.tuple #[.complex .f64 x y,.int .i64 (if (phB v).isSome then 0 else 2)])∧Ext w w'
theorem zsM (v:List UInt8):Lib.hasSuffix v [105]=decide (v.getLast?=some 105):=by
 unfold Lib.hasSuffix
 rcases List.eq_nil_or_concat v with h | ⟨t,c,h⟩
 ·subst h;rfl
 ·rw [List.concat_eq_append] at h
  subst h
  rw [Bool.eq_iff_iff,List.isSuffixOf_iff_suffix,decide_eq_true_iff,List.getLast?_concat]
  constructor
  ·rintro ⟨p,hp⟩
   have:=congrArg List.getLast? hp
   rw [List.getLast?_concat,List.getLast?_concat] at this
   exact this.symm
  ·intro e
   rw [Option.some.inj e]
   exact ⟨t,rfl⟩
theorem zsN (v:List UInt8):Lib.trimSuffix v [105]=if v.getLast?=some 105 then v.dropLast else v:=by
 unfold Lib.trimSuffix
 rw [zsM]
 by_cases h:v.getLast?=some 105
 ·rw [if_pos h,if_pos (by simpa using h),List.dropLast_eq_take];try rfl
 ·rw [if_neg h,if_neg (by simpa using h)]
theorem zsP (s:ByteArray) (w:World) (hs:s.size≤4000000):Calls Tryz.prog 172 #[.string s,.string ⟨#[105]⟩] w fun e w'=>e=.returned (.tuple #[.string (str (if (bys s).getLast?=some 105 then (bys s).dropLast else bys s)),.bool (decide ((bys s).getLast?=some 105))])∧w'=w:=by
 refine (Tryz.strings_CutSuffix s ⟨#[105]⟩ w (by omega)).mono ?_
 rintro e w' ⟨rfl,rfl⟩
 have hh:Lib.hasSuffix s.data.toList [105]=decide ((bys s).getLast?=some 105):=zsM _
 have ht:Lib.trimSuffix s.data.toList [105]=if (bys s).getLast?=some 105 then (bys s).dropLast else bys s:=zsN _
 rw [show (⟨#[105]⟩:ByteArray).data.toList=[105] from rfl,hh,ht]
 exact ⟨rfl,rfl⟩
theorem zpV {s:ByteArray} {n1 n2:Int} {b1 b2:Bool} (hi:(bys s).getLast?≠some 105) (hy1:b1=true→Lib.parseIntB 32 (bys s)=.ok n1) (hz1:b1=false→∀ n,Lib.parseIntB 32 (bys s)≠.ok n) (hy2:b2=true→Lib.parseIntB 32 (bys ⟨#[48]⟩)=.ok n2) (hz2:b2=false→∀ n,Lib.parseIntB 32 (bys ⟨#[48]⟩)≠.ok n) :
 (phB (bys s)).isSome=(b1 && b2 && zaF n1 n2 && decide (zaX n1 n2=bys s)):=by
 have e1:zfB (bys s)=bys s:=by unfold zfB;rw [if_neg hi]
 have e2:zd3 (bys s)=bys ⟨#[48]⟩:=by unfold zd3;rw [if_neg hi];try rfl
 cases b1 with
 | false=>
  have h:=hz1 rfl
  unfold phB
  rw [e1]
  cases hp:Lib.parseIntB 32 (bys s) with
  | ok n=>exact absurd hp (h n)
  | _=>rfl
 | true=>
  have h1:=hy1 rfl
  cases b2 with
  | false=>
   have h:=hz2 rfl
   unfold phB
   rw [e1,e2,h1]
   cases hp:Lib.parseIntB 32 (bys ⟨#[48]⟩) with
   | ok n=>exact absurd hp (h n)
   | _=>rfl
  | true=>
   have h2:=hy2 rfl
   unfold phB
   rw [e1,e2,h1,h2]
   show (if zaF n1 n2=true∧zaX n1 n2=bys s then some (n1,n2) else none).isSome=_
   by_cases hw:zaF n1 n2=true <;> by_cases hp:zaX n1 n2=bys s <;> simp [hw,hp]
theorem zmb (s:ByteArray) (w:World) (hG:Gl w) (hs:s.size≤4000000) (hi:(bys s).getLast?≠some 105):Calls Tryz.prog 152 #[.string s] w (zfR (bys s) w):=by
 have HG:=hid hG
 have hC:=zsP s w hs
 rw [if_neg hi,decide_eq_false hi] at hC
 have hR1:=fun w hG=>zgb s w hG hs
 have hR2:=fun w hG=>zgb ⟨#[48]⟩ w hG (by decide)
 unfold zdL at hR1 hR2
 go_enter Tryz.func152,Tryz.ntmps152
 go_wp2_with (first
  | (go_at_call 172;(with_reducible refine hC.mono ?_);rintro e w1 ⟨rfl,rfl⟩)
  | (go_at_call 174;(with_reducible refine (hR1 _ HG.out).mono ?_);rintro e w1 ⟨n1,b1,hn1,rfl,hx1,hy1,hz1⟩;have HX1:=hid hx1;clear hx1)
  | (go_at_call 174;(with_reducible refine (hR2 _ (HG.out.ext HX1.out)).mono ?_);rintro e w2 ⟨n2,b2,hn2,rfl,hx2,hy2,hz2⟩;have HX2:=hid (HX1.out.trans hx2);clear hx2)
  | (go_at_call 175;(with_reducible refine (zbz hn1 hn2 _ (HG.out.ext HX2.out)).mono ?_);rintro e w3 ⟨rfl,hx3⟩;have HX3:=hid (HX2.out.trans hx3);clear hx3;have HP:=hid (zpV hi hy1 hz1 hy2 hz2);clear hy1 hz1 hy2 hz2 hR1 hR2 hC;generalize zaF n1 n2=W at *;generalize zaX n1 n2=T at *;generalize zax n1=x1 at *;generalize zax n2=x2 at *;cases b1 <;> cases b2 <;> cases W <;> simp only [if_true,if_false,Bool.false_eq_true] at *))
 all_goals go_ret2
 all_goals try (exact ⟨_,_,by rw [HP.out];rfl,HX3.out⟩)
 ·rename_i h
  have hT:¬ T=bys s:=by
   intro e
   rw [e,ByteArray.toList_eq] at h
   simp at h
  exact ⟨_,_,by rw [HP.out,decide_eq_false hT];rfl,HX3.out⟩
 ·rename_i h
  have hT:T=bys s:=by
   rw [ByteArray.toList_eq] at h
   simpa using h
  exact ⟨_,_,by rw [HP.out,decide_eq_true hT];rfl,HX3.out⟩
theorem zqd {c:UInt8} (h:digC c=true):c.toNat<128:=by have:=(zaR c).1 h;omega
theorem zkk (u:Nat):∀ c∈Lib.decDigits u,c.toNat<128:=fun c hc=>zqd (List.all_eq_true.1 (zcw u u (Nat.le_refl _)).1 c hc)
theorem zeM (a:Int):∀ c∈Lib.itoa a,c.toNat<128:=by
 intro c hc
 unfold Lib.itoa at hc
 split at hc
 ·rcases List.mem_cons.1 hc with h | h
  ·rw [h];decide
  ·exact zkk _ c h
 ·exact zkk _ c hc
theorem zey (b:Int):∀ c∈zaK b,c.toNat<128:=by
 intro c hc
 unfold zaK at hc
 split at hc
 ·simp at hc;rw [hc];decide
 ·split at hc
  ·simp at hc;rcases hc with h | h <;> (rw [h];decide)
  ·rcases List.mem_append.1 hc with h | h
   ·exact zeM _ c h
   ·simp at h;rw [h];decide
theorem znK (a b:Int):∀ c∈zaX a b,c.toNat<128:=by
 intro c hc
 unfold zaX at hc
 split at hc
 ·exact zeM _ c hc
 ·split at hc
  ·exact zey _ c hc
  ·split at hc
   ·rcases List.mem_append.1 hc with h | h
    ·exact zeM _ c h
    ·rcases List.mem_cons.1 h with h | h
     ·rw [h];decide
     ·exact zey _ c h
   ·rcases List.mem_append.1 hc with h | h
    ·exact zeM _ c h
    ·exact zey _ c h
def fT (t:List UInt8) (k:Nat):List UInt8:=if t.take k=[] then [48] else t.take k
def sT (t:List UInt8) (k:Nat):List UInt8:=if t.drop k=[]∨t.drop k=[43]∨t.drop k=[45] then t.drop k++[49] else t.drop k
theorem zkd {t v:List UInt8} {k:Nat} {n1 n2:Int} {b1 b2:Bool} (hv:v=t++[105]) (hk:k=atP t∨∃ c∈t,¬ c.toNat<128) (hy1:b1=true→Lib.parseIntB 32 (fT t k)=.ok n1) (hz1:b1=false→∀ n,Lib.parseIntB 32 (fT t k)≠.ok n) (hy2:b2=true→Lib.parseIntB 32 (sT t k)=.ok n2) (hz2:b2=false→∀ n,Lib.parseIntB 32 (sT t k)≠.ok n) :
 (phB v).isSome=(b1 && b2 && zaF n1 n2 && decide (zaX n1 n2=v)):=by
 rcases hk with rfl | ⟨c,hc,h128⟩
 ·have e1:zfB v=fT t (atP t):=by rw [hv,zje];rfl
  have e2:zd3 v=sT t (atP t):=by rw [hv,zjB];rfl
  cases b1 with
  | false=>
   have h:=hz1 rfl
   unfold phB
   rw [e1]
   cases hp:Lib.parseIntB 32 (fT t (atP t)) with
   | ok n=>exact absurd hp (h n)
   | _=>rfl
  | true=>
   have h1:=hy1 rfl
   cases b2 with
   | false=>
    have h:=hz2 rfl
    unfold phB
    rw [e1,e2,h1]
    cases hp:Lib.parseIntB 32 (sT t (atP t)) with
    | ok n=>exact absurd hp (h n)
    | _=>rfl
   | true=>
    have h2:=hy2 rfl
    unfold phB
    rw [e1,e2,h1,h2]
    show (if zaF n1 n2=true∧zaX n1 n2=v then some (n1,n2) else none).isSome=_
    by_cases hw:zaF n1 n2=true <;> by_cases hp:zaX n1 n2=v <;> simp [hw,hp]
 ·have hne:∀ a b,zaX a b≠v:=fun a b e=>h128 (znK a b c (by rw [e,hv];exact List.mem_append_left _ hc))
  rw [decide_eq_false (hne n1 n2),Bool.and_false]
  cases hp:phB v with
  | none=>rfl
  | some p=>exact absurd (zmp hp).2 (hne _ _)
def zi7 (t:List UInt8) (w:World) (e:Ending) (w':World):Prop:=∃ q:Int,e=.returned (.int .i64 q)∧-1≤q∧q<(max t.length 1:Nat)∧((max q 0).toNat=atP t∨∃ c∈t,¬ c.toNat<128)∧Ext w w'
theorem zrW (s:ByteArray) (w:World) (hG:Gl w) (hs:s.size≤3000000) (hi:(bys s).getLast?=some 105) (hLA:Calls Tryz.prog 173 #[.string (str (bys s).dropLast),.string ⟨#[43,45]⟩] w (zi7 (bys s).dropLast w)):Calls Tryz.prog 152 #[.string s] w (zfR (bys s) w):=by
 have HG:=hid hG
 have hC:=zsP s w (by omega)
 rw [if_pos hi,decide_eq_true hi] at hC
 obtain ⟨t,ht⟩:∃ t,t=(bys s).dropLast:=⟨_,rfl⟩
 have hv:bys s=t++[105]:=by
  rw [ht]
  have h1:bys s≠[]:=by intro e;rw [e] at hi;cases hi
  have h2:=List.dropLast_concat_getLast h1
  rw [List.getLast?_eq_some_getLast h1] at hi
  rw [Option.some.inj hi] at h2
  exact h2.symm
 rw [← ht] at hC hLA
 have htl:t.length≤3000000:=by have:=congrArg List.length hv;rw [zaf,List.length_append] at this;simp at this;omega
 have hR:=fun (x:List UInt8) (hx:x.length≤4000000) w hG=>zgb (str x) w hG (by rw [zaL];exact hx)
 unfold zdL at hR
 simp only [zao] at hR
 unfold zi7 at hLA
 have HV:=hid hv
 have HTL:=hid htl
 clear hG hs hi ht hv htl
 go_enter Tryz.func152,Tryz.ntmps152
 go_wp2_with (first
  | (go_at_call 172;(with_reducible refine hC.mono ?_);rintro e w1 ⟨rfl,rfl⟩)
  | (go_at_call 173;(with_reducible refine hLA.mono ?_);rintro e w1 ⟨q,rfl,hq1,hq2,hq3,hx1⟩;have HX1:=hid hx1;obtain ⟨k,hk⟩:∃ k,k=(max q 0).toNat:=⟨_,rfl⟩;have hmk:max q 0=(k:Int):=(by omega);have HQ3:=hid hq3;have hkl:k≤t.length:=(by omega);have HMK:=hid hmk;have HK:=hid hk;have HKL:=hid hkl;clear hx1 hq3 hk hq1 hq2))
 have HQK:Hid (k=atP t∨∃ c∈t,¬ c.toNat<128):=by show _∨_;rw [HK.out];exact HQ3.out
 have y1:(str t).extract 0 k=str (t.take k):=by rw [← zaN ((str t).extract 0 k),zeu,zao];simp
 have y2:(str t).extract k (str t).size=str (t.drop k):=by rw [← zaN ((str t).extract k (str t).size),zeW,zao]
 have y3:(str t).extract k t.length=str (t.drop k):=y2
 have hkl2:(k:Int)≤(t.length:Int):=by omega
 have HFD:Hid (fT t k=if t.take k=[] then [48] else t.take k):=rfl
 have HSD:Hid (sT t k=if t.drop k=[]∨t.drop k=[43]∨t.drop k=[45] then t.drop k++[49] else t.drop k):=rfl
 have hpl:Hid ((t.take k).length≤3000000):=by show _≤_;have:=HTL.out;have:=List.length_take_le k t;omega
 have hdl:Hid ((t.drop k).length≤3000000):=by show _≤_;have:=HTL.out;rw [List.length_drop];omega
 clear hLA hC hmk
 refine zad (.read 0 (.read 1 (.read 2 (.read 3 (.read 4 (.read 5 (.read 6 (.read 7 .done)))))))) (by kernel_rfl) (by kernel_rfl) ?_
 intro wD hxD
 have XE:Hid (Ext wD wD):=Ext.refl _
 repeat' (first
  | ((first | refine zah rfl rfl ?_ | refine zae rfl rfl ?_ | refine zak rfl rfl ?_);simp only [Act.put,Act.eval,evs])
  | (refine zab rfl rfl ?_;simp only [Act.put,evp])
  | (refine zag (v:=?_) rfl rfl (fun w' hE=>?_) ?_;rotate_left 1;(· ((try (have hEx:=Ext.trans (Hid.out XE) hE));go_simp;(try go_bits);with_reducible rfl));simp only [Act.put,evp])
  | (refine walks_alt ?_ ?_)
  | (refine zai rfl rfl (fun K hK=>?_);go_wp2_with (fail);refine hK _ _ (by first | assumption | exact Ext.alloc _ _ | exact Ext.refl _) ?_;clear hK K;try simp only [Act.put,evp]))
 refine zaj ?_
 have HXD:=hid (HX1.out.trans hxD)
 clear y1 y2 y3 hkl2 hkl XE
 generalize t.take k=p at *
 generalize t.drop k=d at *
 by_cases hp:p=[]
 ·have hF:fT t k=[48]:=by rw [HFD.out,if_pos hp]
  have hR1:∀ w,Gl w→Calls Tryz.prog 174 #[.string ⟨#[48]⟩] w fun e w'=>∃ (n:Int) (b:Bool),n.natAbs<9007199254740992∧e=.returned (.tuple #[.float .f64 (zax n),.bool b])∧Ext w w'∧(b=true→Lib.parseIntB 32 (fT t k)=.ok n)∧(b=false→∀ n,Lib.parseIntB 32 (fT t k)≠.ok n):=fun w hG=>by
   have h:Calls Tryz.prog 174 #[.string ⟨#[48]⟩] w _:=hR [48] (by simp) w hG
   refine h.mono fun e w' hh=>?_
   rw [hF]
   exact hh
  have tp:(p == [])=true:=by rw [hp];rfl
  clear hp hF HFD hpl
  by_cases hd:d=[]∨d=[43]∨d=[45]
  ·have hS:sT t k=d++[49]:=by rw [HSD.out,if_pos hd]
   have hR2:∀ w,Gl w→Calls Tryz.prog 174 #[.string (str (d++[49]))] w fun e w'=>∃ (n:Int) (b:Bool),n.natAbs<9007199254740992∧e=.returned (.tuple #[.float .f64 (zax n),.bool b])∧Ext w w'∧(b=true→Lib.parseIntB 32 (sT t k)=.ok n)∧(b=false→∀ n,Lib.parseIntB 32 (sT t k)≠.ok n):=fun w hG=>by
    refine (hR (d++[49]) (by have:=hdl.out;rw [List.length_append];simp only [List.length_cons,List.length_nil];omega) w hG).mono fun e w' hh=>?_
    rw [hS]
    exact hh
   have hz:str d++(⟨#[49]⟩:ByteArray)=str (d++[49]):=zbg d [49]
   have z0:¬ 9223372036854775807<d.length+1:=by have:=hdl.out;omega
   have td:(d == [])=true∨((d == [])=false∧(d == [43])=true)∨((d == [])=false∧(d == [43])=false∧(d == [45])=true):=by rcases hd with rfl | rfl | rfl <;> simp
   clear hS HSD hdl hR hd
   obtain ⟨d2,hd2⟩:∃ d2,d2=d++[49]:=⟨_,rfl⟩
   rw [← hd2] at hR2 hz
   clear hd2
   rcases td with td | ⟨td,te⟩ | ⟨td,te,tf⟩
   ·go_wp2_with (first
     | (go_at_call 174;first
      | ((with_reducible refine (hR1 _ (HG.out.ext HXD.out)).mono ?_);rintro e w2 ⟨n1,b1,hn1,rfl,hx2,hy1,hz1⟩;have HX2:=hid (HXD.out.trans hx2);clear hx2 hR1)
      | ((with_reducible refine (hR2 _ (HG.out.ext HX2.out)).mono ?_);rintro e w3 ⟨n2,b2,hn2,rfl,hx3,hy2,hz2⟩;have HX3:=hid (HX2.out.trans hx3);clear hx3 hR2))
     | (go_at_call 175;(with_reducible refine (zbz hn1 hn2 _ (HG.out.ext HX3.out)).mono ?_);rintro e w4 ⟨rfl,hx4⟩;have HX4:=hid (HX3.out.trans hx4);clear hx4;have HP:=hid (zkd HV.out HQK.out hy1 hz1 hy2 hz2);clear hy1 hz1 hy2 hz2;generalize zaF n1 n2=W at *;generalize zaX n1 n2=T at *;generalize zax n1=x1 at *;generalize zax n2=x2 at *;cases b1 <;> cases b2 <;> cases W <;> simp only [if_true,if_false,Bool.false_eq_true] at *))
    all_goals go_ret2
    all_goals try (exact ⟨_,_,by rw [HP.out];rfl,HX4.out⟩)
    ·rename_i h
     have hT:¬ T=bys s:=by
      intro e
      rw [e,ByteArray.toList_eq] at h
      simp at h
     exact ⟨_,_,by rw [HP.out,decide_eq_false hT];rfl,HX4.out⟩
    ·rename_i h
     have hT:T=bys s:=by
      rw [ByteArray.toList_eq] at h
      simpa using h
     exact ⟨_,_,by rw [HP.out,decide_eq_true hT];rfl,HX4.out⟩
   ·go_wp2_with (first
     | (go_at_call 174;first
      | ((with_reducible refine (hR1 _ (HG.out.ext HXD.out)).mono ?_);rintro e w2 ⟨n1,b1,hn1,rfl,hx2,hy1,hz1⟩;have HX2:=hid (HXD.out.trans hx2);clear hx2 hR1)
      | ((with_reducible refine (hR2 _ (HG.out.ext HX2.out)).mono ?_);rintro e w3 ⟨n2,b2,hn2,rfl,hx3,hy2,hz2⟩;have HX3:=hid (HX2.out.trans hx3);clear hx3 hR2))
     | (go_at_call 175;(with_reducible refine (zbz hn1 hn2 _ (HG.out.ext HX3.out)).mono ?_);rintro e w4 ⟨rfl,hx4⟩;have HX4:=hid (HX3.out.trans hx4);clear hx4;have HP:=hid (zkd HV.out HQK.out hy1 hz1 hy2 hz2);clear hy1 hz1 hy2 hz2;generalize zaF n1 n2=W at *;generalize zaX n1 n2=T at *;generalize zax n1=x1 at *;generalize zax n2=x2 at *;cases b1 <;> cases b2 <;> cases W <;> simp only [if_true,if_false,Bool.false_eq_true] at *))
    all_goals go_ret2
    all_goals try (exact ⟨_,_,by rw [HP.out];rfl,HX4.out⟩)
    ·rename_i h
     have hT:¬ T=bys s:=by
      intro e
      rw [e,ByteArray.toList_eq] at h
      simp at h
     exact ⟨_,_,by rw [HP.out,decide_eq_false hT];rfl,HX4.out⟩
    ·rename_i h
     have hT:T=bys s:=by
      rw [ByteArray.toList_eq] at h
      simpa using h
     exact ⟨_,_,by rw [HP.out,decide_eq_true hT];rfl,HX4.out⟩
   ·go_wp2_with (first
     | (go_at_call 174;first
      | ((with_reducible refine (hR1 _ (HG.out.ext HXD.out)).mono ?_);rintro e w2 ⟨n1,b1,hn1,rfl,hx2,hy1,hz1⟩;have HX2:=hid (HXD.out.trans hx2);clear hx2 hR1)
      | ((with_reducible refine (hR2 _ (HG.out.ext HX2.out)).mono ?_);rintro e w3 ⟨n2,b2,hn2,rfl,hx3,hy2,hz2⟩;have HX3:=hid (HX2.out.trans hx3);clear hx3 hR2))
     | (go_at_call 175;(with_reducible refine (zbz hn1 hn2 _ (HG.out.ext HX3.out)).mono ?_);rintro e w4 ⟨rfl,hx4⟩;have HX4:=hid (HX3.out.trans hx4);clear hx4;have HP:=hid (zkd HV.out HQK.out hy1 hz1 hy2 hz2);clear hy1 hz1 hy2 hz2;generalize zaF n1 n2=W at *;generalize zaX n1 n2=T at *;generalize zax n1=x1 at *;generalize zax n2=x2 at *;cases b1 <;> cases b2 <;> cases W <;> simp only [if_true,if_false,Bool.false_eq_true] at *))
    all_goals go_ret2
    all_goals try (exact ⟨_,_,by rw [HP.out];rfl,HX4.out⟩)
    ·rename_i h
     have hT:¬ T=bys s:=by
      intro e
      rw [e,ByteArray.toList_eq] at h
      simp at h
     exact ⟨_,_,by rw [HP.out,decide_eq_false hT];rfl,HX4.out⟩
    ·rename_i h
     have hT:T=bys s:=by
      rw [ByteArray.toList_eq] at h
      simpa using h
     exact ⟨_,_,by rw [HP.out,decide_eq_true hT];rfl,HX4.out⟩
  ·have hS:sT t k=d:=by rw [HSD.out,if_neg hd]
   have hR2:∀ w,Gl w→Calls Tryz.prog 174 #[.string (str d)] w fun e w'=>∃ (n:Int) (b:Bool),n.natAbs<9007199254740992∧e=.returned (.tuple #[.float .f64 (zax n),.bool b])∧Ext w w'∧(b=true→Lib.parseIntB 32 (sT t k)=.ok n)∧(b=false→∀ n,Lib.parseIntB 32 (sT t k)≠.ok n):=fun w hG=>by
    refine (hR d (by have:=hdl.out;omega) w hG).mono fun e w' hh=>?_
    rw [hS]
    exact hh
   have td:(d == [])=false:=beq_eq_false_iff_ne.2 fun h=>hd (.inl h)
   have te:(d == [43])=false:=beq_eq_false_iff_ne.2 fun h=>hd (.inr (.inl h))
   have tf:(d == [45])=false:=beq_eq_false_iff_ne.2 fun h=>hd (.inr (.inr h))
   clear hS HSD hdl hR hd
   go_wp2_with (first
    | (go_at_call 174;first
     | ((with_reducible refine (hR1 _ (HG.out.ext HXD.out)).mono ?_);rintro e w2 ⟨n1,b1,hn1,rfl,hx2,hy1,hz1⟩;have HX2:=hid (HXD.out.trans hx2);clear hx2 hR1)
     | ((with_reducible refine (hR2 _ (HG.out.ext HX2.out)).mono ?_);rintro e w3 ⟨n2,b2,hn2,rfl,hx3,hy2,hz2⟩;have HX3:=hid (HX2.out.trans hx3);clear hx3 hR2))
    | (go_at_call 175;(with_reducible refine (zbz hn1 hn2 _ (HG.out.ext HX3.out)).mono ?_);rintro e w4 ⟨rfl,hx4⟩;have HX4:=hid (HX3.out.trans hx4);clear hx4;have HP:=hid (zkd HV.out HQK.out hy1 hz1 hy2 hz2);clear hy1 hz1 hy2 hz2;generalize zaF n1 n2=W at *;generalize zaX n1 n2=T at *;generalize zax n1=x1 at *;generalize zax n2=x2 at *;cases b1 <;> cases b2 <;> cases W <;> simp only [if_true,if_false,Bool.false_eq_true] at *))
   all_goals go_ret2
   all_goals try (exact ⟨_,_,by rw [HP.out];rfl,HX4.out⟩)
   ·rename_i h
    have hT:¬ T=bys s:=by
     intro e
     rw [e,ByteArray.toList_eq] at h
     simp at h
    exact ⟨_,_,by rw [HP.out,decide_eq_false hT];rfl,HX4.out⟩
   ·rename_i h
    have hT:T=bys s:=by
     rw [ByteArray.toList_eq] at h
     simpa using h
    exact ⟨_,_,by rw [HP.out,decide_eq_true hT];rfl,HX4.out⟩
 ·have hF:fT t k=p:=by rw [HFD.out,if_neg hp]
  have hR1:∀ w,Gl w→Calls Tryz.prog 174 #[.string (str p)] w fun e w'=>∃ (n:Int) (b:Bool),n.natAbs<9007199254740992∧e=.returned (.tuple #[.float .f64 (zax n),.bool b])∧Ext w w'∧(b=true→Lib.parseIntB 32 (fT t k)=.ok n)∧(b=false→∀ n,Lib.parseIntB 32 (fT t k)≠.ok n):=fun w hG=>by
   refine (hR p (by have:=hpl.out;omega) w hG).mono fun e w' hh=>?_
   rw [hF]
   exact hh
  have tp:(p == [])=false:=beq_eq_false_iff_ne.2 hp
  clear hp hF HFD hpl
  by_cases hd:d=[]∨d=[43]∨d=[45]
  ·have hS:sT t k=d++[49]:=by rw [HSD.out,if_pos hd]
   have hR2:∀ w,Gl w→Calls Tryz.prog 174 #[.string (str (d++[49]))] w fun e w'=>∃ (n:Int) (b:Bool),n.natAbs<9007199254740992∧e=.returned (.tuple #[.float .f64 (zax n),.bool b])∧Ext w w'∧(b=true→Lib.parseIntB 32 (sT t k)=.ok n)∧(b=false→∀ n,Lib.parseIntB 32 (sT t k)≠.ok n):=fun w hG=>by
    refine (hR (d++[49]) (by have:=hdl.out;rw [List.length_append];simp only [List.length_cons,List.length_nil];omega) w hG).mono fun e w' hh=>?_
    rw [hS]
    exact hh
   have hz:str d++(⟨#[49]⟩:ByteArray)=str (d++[49]):=zbg d [49]
   have z0:¬ 9223372036854775807<d.length+1:=by have:=hdl.out;omega
   have td:(d == [])=true∨((d == [])=false∧(d == [43])=true)∨((d == [])=false∧(d == [43])=false∧(d == [45])=true):=by rcases hd with rfl | rfl | rfl <;> simp
   clear hS HSD hdl hR hd
   obtain ⟨d2,hd2⟩:∃ d2,d2=d++[49]:=⟨_,rfl⟩
   rw [← hd2] at hR2 hz
   clear hd2
   rcases td with td | ⟨td,te⟩ | ⟨td,te,tf⟩
   ·go_wp2_with (first
     | (go_at_call 174;first
      | ((with_reducible refine (hR1 _ (HG.out.ext HXD.out)).mono ?_);rintro e w2 ⟨n1,b1,hn1,rfl,hx2,hy1,hz1⟩;have HX2:=hid (HXD.out.trans hx2);clear hx2 hR1)
      | ((with_reducible refine (hR2 _ (HG.out.ext HX2.out)).mono ?_);rintro e w3 ⟨n2,b2,hn2,rfl,hx3,hy2,hz2⟩;have HX3:=hid (HX2.out.trans hx3);clear hx3 hR2))
     | (go_at_call 175;(with_reducible refine (zbz hn1 hn2 _ (HG.out.ext HX3.out)).mono ?_);rintro e w4 ⟨rfl,hx4⟩;have HX4:=hid (HX3.out.trans hx4);clear hx4;have HP:=hid (zkd HV.out HQK.out hy1 hz1 hy2 hz2);clear hy1 hz1 hy2 hz2;generalize zaF n1 n2=W at *;generalize zaX n1 n2=T at *;generalize zax n1=x1 at *;generalize zax n2=x2 at *;cases b1 <;> cases b2 <;> cases W <;> simp only [if_true,if_false,Bool.false_eq_true] at *))
    all_goals go_ret2
    all_goals try (exact ⟨_,_,by rw [HP.out];rfl,HX4.out⟩)
    ·rename_i h
     have hT:¬ T=bys s:=by
      intro e
      rw [e,ByteArray.toList_eq] at h
      simp at h
     exact ⟨_,_,by rw [HP.out,decide_eq_false hT];rfl,HX4.out⟩
    ·rename_i h
     have hT:T=bys s:=by
      rw [ByteArray.toList_eq] at h
      simpa using h
     exact ⟨_,_,by rw [HP.out,decide_eq_true hT];rfl,HX4.out⟩
   ·go_wp2_with (first
     | (go_at_call 174;first
      | ((with_reducible refine (hR1 _ (HG.out.ext HXD.out)).mono ?_);rintro e w2 ⟨n1,b1,hn1,rfl,hx2,hy1,hz1⟩;have HX2:=hid (HXD.out.trans hx2);clear hx2 hR1)
      | ((with_reducible refine (hR2 _ (HG.out.ext HX2.out)).mono ?_);rintro e w3 ⟨n2,b2,hn2,rfl,hx3,hy2,hz2⟩;have HX3:=hid (HX2.out.trans hx3);clear hx3 hR2))
     | (go_at_call 175;(with_reducible refine (zbz hn1 hn2 _ (HG.out.ext HX3.out)).mono ?_);rintro e w4 ⟨rfl,hx4⟩;have HX4:=hid (HX3.out.trans hx4);clear hx4;have HP:=hid (zkd HV.out HQK.out hy1 hz1 hy2 hz2);clear hy1 hz1 hy2 hz2;generalize zaF n1 n2=W at *;generalize zaX n1 n2=T at *;generalize zax n1=x1 at *;generalize zax n2=x2 at *;cases b1 <;> cases b2 <;> cases W <;> simp only [if_true,if_false,Bool.false_eq_true] at *))
    all_goals go_ret2
    all_goals try (exact ⟨_,_,by rw [HP.out];rfl,HX4.out⟩)
    ·rename_i h
     have hT:¬ T=bys s:=by
      intro e
      rw [e,ByteArray.toList_eq] at h
      simp at h
     exact ⟨_,_,by rw [HP.out,decide_eq_false hT];rfl,HX4.out⟩
    ·rename_i h
     have hT:T=bys s:=by
      rw [ByteArray.toList_eq] at h
      simpa using h
     exact ⟨_,_,by rw [HP.out,decide_eq_true hT];rfl,HX4.out⟩
   ·go_wp2_with (first
     | (go_at_call 174;first
      | ((with_reducible refine (hR1 _ (HG.out.ext HXD.out)).mono ?_);rintro e w2 ⟨n1,b1,hn1,rfl,hx2,hy1,hz1⟩;have HX2:=hid (HXD.out.trans hx2);clear hx2 hR1)
      | ((with_reducible refine (hR2 _ (HG.out.ext HX2.out)).mono ?_);rintro e w3 ⟨n2,b2,hn2,rfl,hx3,hy2,hz2⟩;have HX3:=hid (HX2.out.trans hx3);clear hx3 hR2))
     | (go_at_call 175;(with_reducible refine (zbz hn1 hn2 _ (HG.out.ext HX3.out)).mono ?_);rintro e w4 ⟨rfl,hx4⟩;have HX4:=hid (HX3.out.trans hx4);clear hx4;have HP:=hid (zkd HV.out HQK.out hy1 hz1 hy2 hz2);clear hy1 hz1 hy2 hz2;generalize zaF n1 n2=W at *;generalize zaX n1 n2=T at *;generalize zax n1=x1 at *;generalize zax n2=x2 at *;cases b1 <;> cases b2 <;> cases W <;> simp only [if_true,if_false,Bool.false_eq_true] at *))
    all_goals go_ret2
    all_goals try (exact ⟨_,_,by rw [HP.out];rfl,HX4.out⟩)
    ·rename_i h
     have hT:¬ T=bys s:=by
      intro e
      rw [e,ByteArray.toList_eq] at h
      simp at h
     exact ⟨_,_,by rw [HP.out,decide_eq_false hT];rfl,HX4.out⟩
    ·rename_i h
     have hT:T=bys s:=by
      rw [ByteArray.toList_eq] at h
      simpa using h
     exact ⟨_,_,by rw [HP.out,decide_eq_true hT];rfl,HX4.out⟩
  ·have hS:sT t k=d:=by rw [HSD.out,if_neg hd]
   have hR2:∀ w,Gl w→Calls Tryz.prog 174 #[.string (str d)] w fun e w'=>∃ (n:Int) (b:Bool),n.natAbs<9007199254740992∧e=.returned (.tuple #[.float .f64 (zax n),.bool b])∧Ext w w'∧(b=true→Lib.parseIntB 32 (sT t k)=.ok n)∧(b=false→∀ n,Lib.parseIntB 32 (sT t k)≠.ok n):=fun w hG=>by
    refine (hR d (by have:=hdl.out;omega) w hG).mono fun e w' hh=>?_
    rw [hS]
    exact hh
   have td:(d == [])=false:=beq_eq_false_iff_ne.2 fun h=>hd (.inl h)
   have te:(d == [43])=false:=beq_eq_false_iff_ne.2 fun h=>hd (.inr (.inl h))
   have tf:(d == [45])=false:=beq_eq_false_iff_ne.2 fun h=>hd (.inr (.inr h))
   clear hS HSD hdl hR hd
   go_wp2_with (first
    | (go_at_call 174;first
     | ((with_reducible refine (hR1 _ (HG.out.ext HXD.out)).mono ?_);rintro e w2 ⟨n1,b1,hn1,rfl,hx2,hy1,hz1⟩;have HX2:=hid (HXD.out.trans hx2);clear hx2 hR1)
     | ((with_reducible refine (hR2 _ (HG.out.ext HX2.out)).mono ?_);rintro e w3 ⟨n2,b2,hn2,rfl,hx3,hy2,hz2⟩;have HX3:=hid (HX2.out.trans hx3);clear hx3 hR2))
    | (go_at_call 175;(with_reducible refine (zbz hn1 hn2 _ (HG.out.ext HX3.out)).mono ?_);rintro e w4 ⟨rfl,hx4⟩;have HX4:=hid (HX3.out.trans hx4);clear hx4;have HP:=hid (zkd HV.out HQK.out hy1 hz1 hy2 hz2);clear hy1 hz1 hy2 hz2;generalize zaF n1 n2=W at *;generalize zaX n1 n2=T at *;generalize zax n1=x1 at *;generalize zax n2=x2 at *;cases b1 <;> cases b2 <;> cases W <;> simp only [if_true,if_false,Bool.false_eq_true] at *))
   all_goals go_ret2
   all_goals try (exact ⟨_,_,by rw [HP.out];rfl,HX4.out⟩)
   ·rename_i h
    have hT:¬ T=bys s:=by
     intro e
     rw [e,ByteArray.toList_eq] at h
     simp at h
    exact ⟨_,_,by rw [HP.out,decide_eq_false hT];rfl,HX4.out⟩
   ·rename_i h
    have hT:T=bys s:=by
     rw [ByteArray.toList_eq] at h
     simpa using h
    exact ⟨_,_,by rw [HP.out,decide_eq_true hT];rfl,HX4.out⟩
end Go.Proofs.YtioglicfndkgiaaGreatDoor
namespace Go.Proofs.YtioglicfndkgiaaGreatDoor
open Go.RowKit
set_option maxRecDepth 1000000
def Ug (w:World):Prop:=Lib.Utf8Tabs 6 7 w
theorem Ug.ext {w w':World} (h:Ug w) (hx:Ext w w'):Ug w':=Utf8Tabs_below h hx
structure Gu (w:World):Prop where
 gl:Gl w
 ug:Ug w
theorem Gu.ext {w w':World} (h:Gu w) (hx:Ext w w'):Gu w':=⟨h.gl.ext hx,h.ug.ext hx⟩
def zjd (w:World) (e:Ending) (w':World):Prop:=∃ (r:Int) (z:Nat),e=.returned (.tuple #[.int .i32 r,.int .i64 z])∧z≤4∧Ext w w'
theorem zlA (s:ByteArray):(Lib.decodeGo s).2≤4:=by
 unfold Lib.decodeGo
 split
 ·simp
 ·rw [Lib.decode_at]
  unfold Lib.decodeN
  repeat' split
  all_goals simp
theorem zmV {s:ByteArray} (h:0<s.size):s.toList.isEmpty=false:=by
 have hl:(bys s).length=s.size:=zaf s
 rw [ByteArray.toList_eq]
 show (bys s).isEmpty=false
 cases h:bys s with
 | nil=>rw [h] at hl;simp at hl;omega
 | cons x t=>rfl
theorem zpW (s:ByteArray) (w:World) (hT:Ug w) (h0:0<s.size) (hs:s.size≤4000000):Calls Tryz.prog 223 #[.string s] w (zjd w):=by
 have hS:=fun w hT=>Tryz.utf8_decodeRuneInStringSlow s w hT
 have HT:Hid (Ug w):=hT
 unfold Ug at HT
 have he:=zmV h0
 clear hT
 by_cases h8:((s[0]'h0).toNat:Int)<128
 all_goals
  go_enter Tryz.func223,Tryz.ntmps223
  go_wp2_with (go_at_call 232;(with_reducible refine (hS _ HT.out).mono ?_);rintro e w1 ⟨rfl,hx1⟩;have HX1:=hid hx1;clear hx1)
  go_ret2
 ·exact ⟨_,1,rfl,by omega,Ext.refl _⟩
 ·exact ⟨_,_,rfl,zlA s,HX1.out⟩
def zkY (s:ByteArray) (w:World) (e:Ending) (w':World):Prop:=∃ (r:Int) (z:Nat),e=.returned (.tuple #[.int .i32 r,.int .i64 z])∧1≤z∧z≤s.size∧Ext w w'
theorem zpB (s:ByteArray) (w:World) (hT:Ug w) (h0:0<s.size) (hs:s.size≤4000000):Calls Tryz.prog 200 #[.string s] w (zkY s w):=by
 have hz:((s.size:Int)==0)=false:=by rw [beq_eq_false_iff_ne];omega
 obtain ⟨n,hn⟩:∃ n,s.size=n+1:=⟨s.size-1,by omega⟩
 have hp:((s.size:Int)-1)=(n:Int):=by omega
 have hlt:n<s.size:=by omega
 have hnb:n<4000000:=by omega
 have hD:∀ j,j≤n→∀ w',w'=w→Calls Tryz.prog 223 #[.string (s.extract j (n+1))] w' (zjd w):=fun j hj w' hw=>by
  subst hw
  rw [← hn]
  exact zpW _ w' hT (by rw [ByteArray.size_extract];omega) (by rw [ByteArray.size_extract];omega)
 unfold zjd at hD
 clear hT
 have hw:wrap32 ((s[n]'hlt).toNat:Int)=((s[n]'hlt).toNat:Int):=by unfold wrap32;have:=(s[n]'hlt).toNat_lt;omega
 have hRS:=fun (b:Int) h0 h1 w=>Tryz.utf8_RuneStart b w h0 h1
 by_cases h8:((s[n]'hlt).toNat:Int)<128
 ·go_enter Tryz.func200,Tryz.ntmps200
  go_wp2
  go_ret2
  exact ⟨_,1,rfl,by omega,by omega,Ext.refl _⟩
 ·go_enter Tryz.func200,Tryz.ntmps200
  go_wp2
  generalize hL:max ((n:Int)+1-4) 0=L at *
  have hL0:0≤L:=by omega
  clear hL
  rw [hw]
  go_loopw [5] (fun i wr=>∃ (j:Nat),j≤n∧i=.int .i64 ((j:Int)-1)∧wr=w) (fun i _=>(intOf i+1).toNat)
  case atStart=>exact ⟨n,by omega,rfl,rfl⟩
  case round=>
   obtain ⟨j,hj,rfl,rfl⟩:=hrel
   by_cases hc:L≤(j:Int)-1
   ·obtain ⟨k,rfl⟩:∃ k,j=k+1:=⟨j-1,by omega⟩
    have hk:((k+1:Nat):Int)-1=(k:Int):=by omega
    rw [hk] at *
    have hks:k<s.size:=by omega
    have hkk:¬ (k:Int)<0:=by omega
    have hkn:(k:Int)≤(n:Int)+1:=by omega
    have hx:=hRS ((s[k]'hks).toNat) (by omega) (by have:=(s[k]'hks).toNat_lt;omega)
    have hd:=hD k (by omega)
    cases hr:Lib.runeStart ((s[k]'hks).toNat:Int)
    ·rw [hr] at hx
     go_wp2_with (go_at_call 222;(with_reducible refine (hx _).mono ?_);rintro e w1 ⟨rfl,rfl⟩)
     exact ⟨⟨k,by omega,by go_num,by first | rfl | trivial⟩,by simp [intOf] <;> omega⟩
    ·rw [hr] at hx
     go_wp2_with (first
      | (go_at_call 222;(with_reducible refine (hx _).mono ?_);rintro e w1 ⟨rfl,rfl⟩)
      | (go_at_call 223;(with_reducible refine (hd _ rfl).mono ?_);rintro e w1 ⟨r,z,rfl,hz4,hx1⟩;have HX1:=hid hx1;clear hx1))
     all_goals go_ret2
     ·exact ⟨_,1,rfl,by omega,by omega,HX1.out⟩
     ·rename_i he
      simp at he
      exact ⟨_,z,rfl,by omega,by omega,HX1.out⟩
   ·have hcc:decide (L≤(j:Int)-1)=false:=decide_eq_false hc
    have hRS':=hRS
    cases j with
    | zero=>
     have hd:=hD 0 (by omega)
     have hx:=fun w=>hRS 0 (by omega) (by omega) w
     have hm:decide (((0:Nat):Int)-1<0)=true:=by decide
     go_wp2_with (first
      | (go_at_call 222;(with_reducible refine (hx _).mono ?_);rintro e w1 ⟨rfl,rfl⟩)
      | (go_at_call 223;(with_reducible refine (hd _ rfl).mono ?_);rintro e w1 ⟨r,z,rfl,hz4,hx1⟩;have HX1:=hid hx1;clear hx1))
     all_goals go_ret2
     ·exact ⟨_,1,rfl,by omega,by omega,HX1.out⟩
     ·rename_i he
      simp at he
      exact ⟨_,z,rfl,by omega,by omega,HX1.out⟩
    | succ k=>
     have hk:((k+1:Nat):Int)-1=(k:Int):=by omega
     rw [hk] at *
     have hkk:¬ (k:Int)<0:=by omega
     have hkn:(k:Int)≤(n:Int)+1:=by omega
     have hd:=hD k (by omega)
     have hx:=fun w=>hRS 0 (by omega) (by omega) w
     go_wp2_with (first
      | (go_at_call 222;(with_reducible refine (hx _).mono ?_);rintro e w1 ⟨rfl,rfl⟩)
      | (go_at_call 223;(with_reducible refine (hd _ rfl).mono ?_);rintro e w1 ⟨r,z,rfl,hz4,hx1⟩;have HX1:=hid hx1;clear hx1))
     all_goals go_ret2
     ·exact ⟨_,1,rfl,by omega,by omega,HX1.out⟩
     ·rename_i he
      simp at he
      exact ⟨_,z,rfl,by omega,by omega,HX1.out⟩
def zmu (w:World) (e:Ending) (w':World):Prop:=∃ a:Int,e=.returned (.int .i64 a)∧Ext w w'
theorem zmc (w:World):Calls Tryz.prog 196 #[.string ⟨#[43,45]⟩,.int .i32 65533] w (zmu w):=by
 have n0:=fun (w:World) (ty:TypeId)=>run_next_ascii (P:=Tryz.prog) w ⟨#[43,45]⟩ 0 ty (by decide) (by decide)
 have n1:=fun (w:World) (ty:TypeId)=>run_next_ascii (P:=Tryz.prog) w ⟨#[43,45]⟩ 1 ty (by decide) (by decide)
 have n2:=fun (w:World) (ty:TypeId)=>run_next_end (P:=Tryz.prog) w ⟨#[43,45]⟩ 2 ty (by decide)
 have HX:Hid (∀ p,Ext w (w.iter ⟨#[43,45]⟩ p)):=fun p=>Ext.alloc _ _
 go_enter Tryz.func196,Tryz.ntmps196
 go_wp2
 refine wp_loop_rounds 3 ?_
 rw [rounds_succ]
 go_wp2
 rw [rounds_succ]
 go_wp2
 rw [rounds_succ]
 go_wp2
 go_ret
 exact ⟨_,rfl,HX.out _⟩
theorem zj6 (r:Int) (w:World):Calls Tryz.prog 196 #[.string ⟨#[43,45]⟩,.int .i32 r] w (zmu w):=by
 by_cases ha:0≤r∧r<128
 ·exact (Tryz.strings_IndexRune_ascii ⟨#[43,45]⟩ r w ha.1 ha.2).mono fun e w' h=>⟨_,h.1,by rw [h.2];exact Ext.refl _⟩
 ·by_cases he:r=65533
  ·subst he
   exact zmc w
  ·have e1:(r==65533)=false:=beq_eq_false_iff_ne.2 he
   have a1:¬ 0≤r∨¬ r<128:=by omega
   have hV:=fun w=>Tryz.utf8_ValidRune r w
   cases hv:Lib.validRune r
   ·rw [hv] at hV
    rcases a1 with a1 | a1
    ·have a2:decide (0≤r)=false:=decide_eq_false a1
     go_enter Tryz.func196,Tryz.ntmps196
     go_wp2_with (go_at_call 221;(with_reducible refine (hV _).mono ?_);rintro e w1 ⟨rfl,rfl⟩)
     go_ret
     exact ⟨_,rfl,Ext.refl _⟩
    ·have a2:decide (r<128)=false:=decide_eq_false a1
     go_enter Tryz.func196,Tryz.ntmps196
     go_wp2_with (go_at_call 221;(with_reducible refine (hV _).mono ?_);rintro e w1 ⟨rfl,rfl⟩)
     all_goals go_ret
     all_goals exact ⟨_,rfl,Ext.refl _⟩
   ·rw [hv] at hV
    have hr0:0≤r:=by
     unfold Lib.validRune at hv
     rw [decide_eq_true_iff] at hv
     omega
    have hr1:128≤r:=by omega
    have a2:decide (r<128)=false:=decide_eq_false (by omega)
    have hval:Utf8.valid r=true:=by
     unfold Lib.validRune at hv
     rw [decide_eq_true_iff] at hv
     unfold Utf8.valid
     simp
     omega
    obtain ⟨f1,f2,f3⟩:=encode_facts r hval hr1
    obtain ⟨E,hE⟩:∃ E,Utf8.encode r=E:=⟨_,rfl⟩
    rw [hE] at f1 f2
    have f4:∀ h:E.size-1<E.size,128≤((E)[E.size-1]'h).toNat:=by rw [← hE];exact f3
    clear f3
    obtain ⟨m,hm⟩:∃ m,E.size=m+2:=⟨E.size-2,by omega⟩
    have hl:((E.size:Int)-1)=((m+1:Nat):Int):=by omega
    have hm2:m≤2:=by omega
    have hmlt:m+1<E.size:=by omega
    have f5:128≤((E)[m+1]'hmlt).toNat:=by
     have h9:E.size-1=m+1:=by omega
     have:=f4 (by omega)
     simp only [h9] at this
     exact this
    have hcv:∀ w,(convert 21 9 (.int .i32 r)).run Tryz.prog w=.ok (.string E) w:=fun w=>by rw [← hE];exact run_convert_int_string w _ _ _ _ (by rw [Tryz.underlying21];rfl) Tryz.underlying9
    clear f4 f1 f2 hm hE
    by_cases h0:m=0
    ·subst h0
     go_enter Tryz.func196,Tryz.ntmps196
     go_wp2_with (go_at_call 221;(with_reducible refine (hV _).mono ?_);rintro e w1 ⟨rfl,rfl⟩)
     have q1:1<E.size:=hmlt
     have f6:128≤((E)[1]'q1).toNat:=f5
     have hne:(45:Int)≠(((E)[1]'q1).toNat:Int):=by omega
     have hnb:((((⟨#[43,45]⟩:ByteArray)[1]'(by decide)).toNat:Int) != (((E)[1]'q1).toNat:Int))=true:=by rw [bne_iff_ne];exact hne
     have hIB:∀ w,Calls Tryz.prog 139 #[.string ByteArray.empty,.int .u8 (((E)[1]'q1).toNat:Int)] w fun e w'=>e=.returned (.int .i64 (-1))∧w'=w:=fun w=>by
      refine (Tryz.strings_IndexByte ByteArray.empty _ w).mono fun e w' h=>?_
      have e0:ByteArray.empty.data.toList=[]:=by rfl
      rw [e0] at h
      exact h
     have q2:(1:Int)<(E.size:Int):=by omega
     clear f5 hmlt
     refine wp_scope_straight ?_
     go_wp2
     refine wp_loop_rounds 1 ?_
     rw [rounds_succ]
     go_wp2
     refine wp_scope_straight ?_
     go_wp2
     refine zad (.read 0 (.read 1 (.read 2 (.read 3 (.read 4 (.read 5 (.read 6 .done))))))) (by kernel_rfl) (by kernel_rfl) ?_
     intro wD hxD
     have XE:Hid (Ext wD wD):=Ext.refl _
     repeat' (first
      | ((first | refine zah rfl rfl ?_ | refine zae rfl rfl ?_ | refine zak rfl rfl ?_);simp only [Act.put,Act.eval,evs])
      | (refine zab rfl rfl ?_;simp only [Act.put,evp])
      | (refine zag (v:=?_) rfl rfl (fun w' hE=>?_) ?_;rotate_left 1;(· ((try (have hEx:=Ext.trans (Hid.out XE) hE));go_simp;(try go_bits);with_reducible rfl));simp only [Act.put,evp])
      | (refine walks_alt ?_ ?_)
      | (refine zai rfl rfl (fun K hK=>?_);go_wp2_with (fail);refine hK _ _ (by first | assumption | exact Ext.alloc _ _ | exact Ext.refl _) ?_;clear hK K;try simp only [Act.put,evp]))
     refine zaj ?_
     go_wp2
     have HD1:=hid hxD
     clear hxD
     refine zad (.read 0 (.read 1 (.read 2 (.read 3 (.read 4 (.read 5 (.read 6 (.main 7 (.read 8 .done))))))))) (by kernel_rfl) (by kernel_rfl) ?_
     intro wD hxD
     have XE:Hid (Ext wD wD):=Ext.refl _
     repeat' (first
      | ((first | refine zah rfl rfl ?_ | refine zae rfl rfl ?_ | refine zak rfl rfl ?_);simp only [Act.put,Act.eval,evs])
      | (refine zab rfl rfl ?_;simp only [Act.put,evp])
      | (refine zag (v:=?_) rfl rfl (fun w' hE=>?_) ?_;rotate_left 1;(· ((try (have hEx:=Ext.trans (Hid.out XE) hE));go_simp;(try go_bits);with_reducible rfl));simp only [Act.put,evp])
      | (refine walks_alt ?_ ?_)
      | (refine zai rfl rfl (fun K hK=>?_);go_wp2_with ((go_at_call 139;(with_reducible refine (hIB _).mono ?_);rintro e w2 ⟨rfl,rfl⟩));refine hK _ _ (by first | assumption | exact Ext.alloc _ _ | exact Ext.refl _) ?_;clear hK K;try simp only [Act.put,evp]))
     refine zaj ?_
     have HD2:=hid (HD1.out.trans hxD)
     clear hxD HD1
     go_wp2
     all_goals simp only [Exit.noGoto,Exit.inBlock,Exit.then]
     all_goals go_ret
     all_goals exact ⟨_,rfl,HD2.out⟩
    ·have h1:¬ ((m+1:Nat):Int)<2:=by omega
     have h2:decide (((m+1:Nat):Int)<2)=false:=decide_eq_false h1
     go_enter Tryz.func196,Tryz.ntmps196
     go_wp2_with (go_at_call 221;(with_reducible refine (hV _).mono ?_);rintro e w1 ⟨rfl,rfl⟩)
     refine wp_scope_straight ?_
     go_wp2
     refine wp_loop_rounds 1 ?_
     rw [rounds_succ]
     go_wp2
     simp only [Exit.noGoto]
     go_ret
     exact ⟨_,rfl,Ext.refl _⟩
theorem zmE (v:List UInt8):∀ k,-1≤zb6 v k∧zb6 v k<(max k 1:Nat)
 | 0=>by rw [zb6];omega
 | k+1=>by
  rw [zb6]
  have:=zmE v k
  split
  ·omega
  ·omega
def zjm (n:Nat) (w:World) (e:Ending) (w':World):Prop:=∃ q:Int,e=.returned (.int .i64 q)∧-1≤q∧q<(max n 1:Nat)∧Ext w w'
theorem zkQ (s:ByteArray) (w:World) (h1:s.size=1) (x:UInt8) (hx:s[0]'(by omega)=x) (hx8:¬ x.toNat<128) :
 Calls Tryz.prog 173 #[.string s,.string ⟨#[43,45]⟩] w (zjm s.size w):=by
 have h1':((s.size:Int)==1)=true:=by rw [beq_iff_eq];omega
 have hz:(128:Int)≤(x.toNat:Int):=by omega
 have hR:=fun w=>zj6 65533 w
 unfold zmu at hR
 have hs0:0<s.size:=by omega
 have hw:wrap32 (x.toNat:Int)=(x.toNat:Int):=by unfold wrap32;have:=x.toNat_lt;omega
 go_enter Tryz.func173,Tryz.ntmps173
 go_wp2_with (go_at_call 196;(with_reducible refine (hR _).mono ?_);rintro e w2 ⟨a,rfl,hx2⟩;have HX2:=hid hx2;clear hx2)
 all_goals go_ret
 ·exact ⟨0,rfl,by omega,by omega,HX2.out⟩
 ·exact ⟨-1,rfl,by omega,by omega,HX2.out⟩
theorem zmi (s:ByteArray) (w:World) (hG:Ug w) (h2:2≤s.size) (h8:s.size≤8) :
 Calls Tryz.prog 173 #[.string s,.string ⟨#[43,45]⟩] w (zjm s.size w):=by
 have HG:=hid hG
 have h8z:decide ((8:Int)<(s.size:Int))=false:=decide_eq_false (by omega)
 have hU:=fun w=>Tryz.strings_shouldUseASCIISet s.size w
 simp only [h8z] at hU
 have h1:((s.size:Int)==1)=false:=by rw [beq_eq_false_iff_ne];omega
 have hR:=fun r w=>zj6 r w
 unfold zmu at hR
 have hD:=fun (j:Nat) (hj:j+1≤s.size) w hT=>zpB (s.extract 0 (j+1)) w hT (by rw [ByteArray.size_extract];omega) (by rw [ByteArray.size_extract];omega)
 unfold zkY at hD
 have hsz:∀ j:Nat,j+1≤s.size→(s.extract 0 (j+1)).size=j+1:=fun j hj=>by rw [ByteArray.size_extract];omega
 clear h8z hG
 go_enter Tryz.func173,Tryz.ntmps173
 go_wp2_with (go_at_call 197;(with_reducible refine (hU _).mono ?_);rintro e w2 ⟨rfl,rfl⟩)
 clear hU
 go_loopw [13] (fun i wr=>∃ (j:Nat),j≤s.size∧i=.int .i64 (j:Int)∧Hid (Ext w2 wr)) (fun i _=>(intOf i).toNat)
 case atStart=>exact ⟨s.size,by omega,rfl,Ext.refl w2⟩
 case round=>
  obtain ⟨j,hj,rfl,HX⟩:=hrel
  cases j with
  | zero=>
   go_wp2
   go_ret
   exact ⟨-1,rfl,by omega,by omega,HX.out⟩
  | succ k=>
   have hk:(0:Int)<((k+1:Nat):Int):=by omega
   have hks:¬ (s.size:Int)<((k+1:Nat):Int):=by omega
   have hz:=hsz k hj
   go_wp2_with (first
    | (go_at_call 200;(with_reducible refine (hD k hj _ (HG.out.ext HX.out)).mono ?_);rintro e w4 ⟨r,z,rfl,hz1,hz2,hx4⟩;have HX4:=hid (HX.out.trans hx4);clear hx4)
    | (go_at_call 196;(with_reducible refine (hR _ _).mono ?_);rintro e w5 ⟨a,rfl,hx5⟩;have HX5:=hid (HX4.out.trans hx5);clear hx5))
   ·go_ret
    exact ⟨(k:Int)+1-z,rfl,by omega,by omega,HX5.out⟩
   ·have hc:((k+1-z:Nat):Int)=(k:Int)+1-z:=by omega
    exact ⟨⟨k+1-z,by omega,by rw [hc],HX5.out⟩,by simp only [intOf];omega⟩
theorem zkX (t:List UInt8) (w:World) (hG:Ug w) (ht:t.length≤3000000):Calls Tryz.prog 173 #[.string (str t),.string ⟨#[43,45]⟩] w (zi7 t w):=by
 have hsz:(str t).size=t.length:=zaL t
 have hin:=zmE t t.length
 have hat:(max (zb6 t t.length) 0).toNat=atP t:=rfl
 by_cases ha:(∀ (j:Nat) b,(bys (str t))[j]?=some b→b.toNat<128)∨8<t.length
 ·have hc:Calls Tryz.prog 173 #[.string (str t),.string ⟨#[43,45]⟩] w fun e w'=>e=.returned (.int .i64 (zb6 (bys (str t)) (str t).size))∧Ext w w':=by
   rcases ha with ha | ha
   ·exact zi5 (str t) w (by rw [hsz];omega) ha
   ·exact zgN (str t) w (by rw [hsz];exact ha) (by rw [hsz];omega)
  refine hc.mono fun e w' h=>?_
  rw [zao,hsz] at h
  exact ⟨_,h.1,hin.1,hin.2,.inl hat,h.2⟩
 ·have h8:t.length≤8:=by
   rcases Nat.lt_or_ge 8 t.length with h | h
   ·exact absurd (.inr h) ha
   ·exact h
  have hodd:∃ c∈t,¬ c.toNat<128:=by
   apply Classical.byContradiction
   intro hn
   refine ha (.inl fun j b hb=>?_)
   rw [zao] at hb
   apply Classical.byContradiction
   intro h
   exact hn ⟨b,List.mem_of_getElem? hb,h⟩
  have hc:Calls Tryz.prog 173 #[.string (str t),.string ⟨#[43,45]⟩] w (zjm (str t).size w):=by
   obtain ⟨c,hcm,hc8⟩:=hodd
   have hl:=List.length_pos_of_mem hcm
   by_cases h1:t.length=1
   ·have hct:c=t[0]'(by omega):=by
     obtain ⟨i,hi,e⟩:=List.getElem_of_mem hcm
     have:i=0:=by omega
     subst this
     exact e.symm
    exact zkQ (str t) w (by rw [hsz];exact h1) c (by rw [hct];rfl) hc8
   ·exact zmi (str t) w hG (by rw [hsz];omega) (by rw [hsz];exact h8)
  refine hc.mono fun e w' h=>?_
  obtain ⟨q,rfl,h1,h2,hx⟩:=h
  rw [hsz] at h2
  exact ⟨q,rfl,h1,h2,.inr hodd,hx⟩
theorem zoG (s:ByteArray) (w:World) (hG:Gu w) (hs:s.size≤3000000):Calls Tryz.prog 152 #[.string s] w (zfR (bys s) w):=by
 by_cases hi:(bys s).getLast?=some 105
 ·exact zrW s w hG.gl hs hi (zkX _ w hG.ug (by rw [List.length_dropLast,zaf];omega))
 ·exact zmb s w hG.gl (by omega) hi
end Go.Proofs.YtioglicfndkgiaaGreatDoor
namespace Go.Proofs.YtioglicfndkgiaaGreatDoor
set_option maxRecDepth 10000
theorem zpY:∀ (k u:Nat),1≤k→u<10 ^ k→(Lib.decDigits u).length≤k
 | 0,_,h,_=>absurd h (by decide)
 | k+1,u,_,h=>by
  by_cases hu:u<10
  ·rw [zcp hu];simp
  ·rw [zhT hu,List.length_append,List.length_singleton]
   rcases k with _ | k
   ·exact absurd h (by simpa using hu)
   ·have:=zpY (k+1) (u / 10) (by omega) (by rw [Nat.pow_succ] at h;omega)
    omega
theorem zjL {u:Nat} (h:u≤1000000):(Lib.decDigits u).length≤9:=zpY 9 u (by decide) (Nat.lt_of_le_of_lt h (by decide))
theorem zqC (u:Nat):(Lib.decDigits u).head?≠some 45∧(Lib.decDigits u).head?≠some 43:=by
 obtain ⟨h1,-,h3⟩:=zcw u u (Nat.le_refl _)
 cases hd:Lib.decDigits u with
 | nil=>exact absurd hd h3
 | cons c t=>
  rw [hd] at h1
  simp only [List.all_cons,Bool.and_eq_true] at h1
  have hc:=(zaR c).1 h1.1
  constructor <;> · intro e;have:=Option.some.inj e;rw [this] at hc;exact absurd hc.1 (by decide)
theorem ziI {u:Nat} (h:u≤1000000):numR (Lib.decDigits u)=some (u:Int):=by
 obtain ⟨h1,h2,h3⟩:=zcw u u (Nat.le_refl _)
 obtain ⟨q1,q2⟩:=zqC u
 have e:sgnD (Lib.decDigits u)=Lib.decDigits u:=by unfold sgnD;rw [if_neg (by rintro (h | h);exact q1 h;exact q2 h)]
 have hl:1≤(Lib.decDigits u).length:=List.length_pos_iff.2 h3
 have hn:negB (Lib.decDigits u)=false:=by
  cases hd:Lib.decDigits u with
  | nil=>exact absurd hd h3
  | cons c t=>
   rw [hd] at q1
   have:c≠45:=fun e=>q1 (congrArg some e)
   unfold negB
   simp [this]
 unfold numR
 rw [e,if_pos ⟨hl,zjL h,h1⟩,hn,h2];rfl
theorem zk4 {u:Nat} (h:u≤1000000):numR (45::Lib.decDigits u)=some (-(u:Int)):=by
 obtain ⟨h1,h2,h3⟩:=zcw u u (Nat.le_refl _)
 have hl:1≤(Lib.decDigits u).length:=List.length_pos_iff.2 h3
 have e:sgnD (45::Lib.decDigits u)=Lib.decDigits u:=by unfold sgnD;rw [if_pos (.inl rfl)];rfl
 have hn:negB (45::Lib.decDigits u)=true:=by unfold negB;simp
 unfold numR
 rw [e,if_pos ⟨hl,zjL h,h1⟩,hn,h2];rfl
theorem zqz {u:Nat} (h:u≤1000000):numR (43::Lib.decDigits u)=some (u:Int):=by
 obtain ⟨h1,h2,h3⟩:=zcw u u (Nat.le_refl _)
 have hl:1≤(Lib.decDigits u).length:=List.length_pos_iff.2 h3
 have e:sgnD (43::Lib.decDigits u)=Lib.decDigits u:=by unfold sgnD;rw [if_pos (.inr rfl)];rfl
 have hn:negB (43::Lib.decDigits u)=false:=by unfold negB;simp
 unfold numR
 rw [e,if_pos ⟨hl,zjL h,h1⟩,hn,h2];rfl
theorem zjg {a:Int} (h:a.natAbs≤1000000):numR (Lib.itoa a)=some a:=by
 unfold Lib.itoa
 by_cases h0:a<0
 ·rw [if_pos h0,zk4 h];congr 1;omega
 ·rw [if_neg h0,ziI (by omega)];congr 1;omega
theorem zpU {c:UInt8} (h:digC c=true):c≠43∧c≠45:=by
 have h1:=(zaR c).1 h
 constructor <;> · intro e;rw [e] at h1;exact absurd h1.1 (by decide)
theorem zgu {v:List UInt8}:∀ k,(∀ i,1≤i→i<k→v[i]?≠some 43∧v[i]?≠some 45)→zcG v k=0
 | 0,_=>rfl
 | k+1,h=>by
  rw [zcG,if_neg (by rintro ⟨h1,h2 | h2⟩;exact (h k h1 (by omega)).1 h2;exact (h k h1 (by omega)).2 h2)]
  exact zgu k (fun i h1 h2=>h i h1 (by omega))
theorem zla {v:List UInt8} {n:Nat} (hn:1≤n) (hv:v[n]?=some 43∨v[n]?=some 45):∀ k,(∀ i,n<i→i<n+1+k→v[i]?≠some 43∧v[i]?≠some 45)→zcG v (n+1+k)=n
 | 0,_=>by show zcG v (n+1)=n;rw [zcG,if_pos ⟨hn,hv⟩]
 | k+1,h=>by
  show zcG v (n+1+k+1)=n
  rw [zcG,if_neg (by rintro ⟨h1,h2 | h2⟩;exact (h _ (by omega) (by omega)).1 h2;exact (h _ (by omega) (by omega)).2 h2)]
  exact zla hn hv k (fun i h1 h2=>h i h1 (by omega))
theorem zf9 {d:List UInt8} (h:d.all digC=true) (i:Nat):(d++[105])[i]?≠some 43∧(d++[105])[i]?≠some 45:=by
 rcases Nat.lt_trichotomy i d.length with hi | hi | hi
 ·rw [List.getElem?_append_left hi,List.getElem?_eq_getElem hi]
  have:=zpU (List.all_eq_true.1 h _ (List.getElem_mem hi))
  exact ⟨fun e=>this.1 (Option.some.inj e),fun e=>this.2 (Option.some.inj e)⟩
 ·subst hi;simp
 ·rw [List.getElem?_eq_none (by simp;omega)];simp
theorem zrz {u:Nat} (h:[49]=Lib.decDigits u):u=1:=by
 have:=(zcw u u (Nat.le_refl _)).2.1
 rw [← h] at this
 exact this.symm
theorem zsQ {b:Int} {d:List UInt8} (hp:0<b) (hb:b.natAbs≤1000000) (d1:d.all digC=true) (d3:(if d=[] then [49] else d)=Lib.decDigits b.natAbs):secR d=some b∧secR (43::d)=some b:=by
 by_cases hd:d=[]
 ·rw [if_pos hd] at d3
  have:=zrz d3
  have hb1:b=1:=by omega
  subst hd
  rw [hb1]
  exact ⟨rfl,rfl⟩
 ·rw [if_neg hd] at d3
  obtain ⟨n1,n2⟩:=zjk d1
  constructor
  ·unfold secR
   rw [if_neg (by rintro (h | h);exact hd h;exact n1 h),if_neg n2,d3,ziI hb]
   congr 1;omega
  ·unfold secR
   rw [if_neg (by simp [hd]),if_neg (by simp),d3,zqz hb]
   congr 1;omega
theorem zsI {b:Int} {d:List UInt8} (hp:b<0) (hb:b.natAbs≤1000000) (d3:(if d=[] then [45,49] else 45::d)=45::Lib.decDigits b.natAbs):secR (45::d)=some b:=by
 by_cases hd:d=[]
 ·rw [if_pos hd] at d3
  have:=zrz (List.cons.inj d3).2
  have hb1:b = -1:=by omega
  subst hd
  rw [hb1]
  rfl
 ·rw [if_neg hd] at d3
  have e:=(List.cons.inj d3).2
  unfold secR
  rw [if_neg (by simp),if_neg (by simp [hd]),e,zk4 hb]
  congr 1;omega
theorem zfy {v:List UInt8} {a b:Int} (h1:(if 0<atR v then numR (v.take (atR v)) else some 0)=some a) (h2:(if atR v<v.length then secR ((v.take (v.length-1)).drop (atR v)) else some 0)=some b) (hw:zaF a b=true) (hp:zaX a b=v):za1 v=some (a,b):=by
 unfold za1
 rw [h1,h2]
 exact if_pos ⟨hw,hp⟩
theorem at_i {t:List UInt8}:atR (t++[105])=zcG (t++[105]) (t.length+1):=by
 unfold atR
 rw [if_pos (by simp),List.length_append,List.length_singleton]
theorem zmq (t:List UInt8):(t++[105]).take ((t++[105]).length-1)=t:=by simp
theorem zrI {p d:List UInt8} {c:UInt8} (hp:p≠[]) (hc:c=43∨c=45) (h:d.all digC=true):atR (p++c::d++[105])=p.length:=by
 rw [at_i,show (p++c::d).length+1=p.length+1+(d.length+1) by simp;omega]
 refine zla (List.length_pos_iff.2 hp) ?_ _ ?_
 ·rcases hc with rfl | rfl <;> simp
 ·intro i h1 h2
  have e:(p++c::d++[105])[i]?=(d++[105])[i-p.length-1]?:=by
   rw [List.append_assoc,List.cons_append,List.getElem?_append_right (by omega),show i-p.length=(i-p.length-1)+1 by omega,List.getElem?_cons_succ]
   rfl
  rw [e]
  exact zf9 h _
theorem zng {a b:Int} (h:zaF a b=true):za1 (zaX a b)=some (a,b):=by
 obtain ⟨ha,hb⟩:=zfU h
 by_cases b0:b=0
 ·subst b0
  have e:zaX a 0=Lib.itoa a:=by unfold zaX;rw [if_pos rfl]
  have hat:atR (Lib.itoa a)=(Lib.itoa a).length:=by unfold atR;rw [if_neg (zhA a)]
  refine zfy ?_ ?_ h rfl
  ·rw [e,hat,if_pos (List.length_pos_iff.2 (zfd a)),List.take_length];exact zjg ha
  ·rw [e,hat,if_neg (by omega)]
 ·by_cases a0:a=0
  ·have e:zaX a b=zaK b:=by unfold zaX;rw [if_neg b0,if_pos a0]
   by_cases hp:0<b
   ·obtain ⟨d,d1,d2,d3⟩:=zjP hp
    have hat:atR (d++[105])=0:=by rw [at_i];exact zgu _ (fun i _ _=>zf9 d1 i)
    refine zfy ?_ ?_ h rfl
    ·rw [e,d2,hat,if_neg (by omega),a0]
    ·rw [e,d2,hat,if_pos (by simp),zmq,List.drop_zero];exact (zsQ hp hb d1 d3).1
   ·obtain ⟨d,d1,d2,d3⟩:=zjK (b:=b) (by omega)
    have hat:atR (45::d++[105])=0:=by
     rw [at_i]
     refine zgu _ (fun i h1 _=>?_)
     have e:(45::d++[105])[i]?=(d++[105])[i-1]?:=by
      rw [List.cons_append,show i=(i-1)+1 by omega,List.getElem?_cons_succ];rfl
     rw [e]
     exact zf9 d1 _
    refine zfy ?_ ?_ h rfl
    ·rw [e,d2,hat,if_neg (by omega),a0]
    ·rw [e,d2,hat,if_pos (by simp),zmq,List.drop_zero];exact zsI (by omega) hb d3
  ·by_cases hp:0<b
   ·obtain ⟨d,d1,d2,d3⟩:=zjP hp
    have e:zaX a b=Lib.itoa a++43::d++[105]:=by unfold zaX;rw [if_neg b0,if_neg a0,if_pos hp,d2];simp
    have hat:=zrI (p:=Lib.itoa a) (d:=d) (zfd a) (.inl (rfl:(43:UInt8)=43)) d1
    refine zfy ?_ ?_ h rfl
    ·rw [e,hat,if_pos (List.length_pos_iff.2 (zfd a)),List.append_assoc,List.take_left];exact zjg ha
    ·rw [e,hat,if_pos (by simp),zmq,List.drop_left];exact (zsQ hp hb d1 d3).2
   ·obtain ⟨d,d1,d2,d3⟩:=zjK (b:=b) (by omega)
    have e:zaX a b=Lib.itoa a++45::d++[105]:=by unfold zaX;rw [if_neg b0,if_neg a0,if_neg hp,d2];simp
    have hat:=zrI (p:=Lib.itoa a) (d:=d) (zfd a) (.inr (rfl:(45:UInt8)=45)) d1
    refine zfy ?_ ?_ h rfl
    ·rw [e,hat,if_pos (List.length_pos_iff.2 (zfd a)),List.append_assoc,List.take_left];exact zjg ha
    ·rw [e,hat,if_pos (by simp),zmq,List.drop_left];exact zsI (by omega) hb d3
theorem znQ {v:List UInt8} {a b:Int} (h:za1 v=some (a,b)):zaF a b=true∧zaX a b=v:=by
 unfold za1 zea at h
 split at h
 ·split at h
  ·rename_i hc
   cases h
   exact hc
  ·cases h
 ·cases h
theorem zn0 (v:List UInt8):(za1 v).isSome=(phB v).isSome:=by
 rw [Bool.eq_iff_iff,zsn]
 constructor
 ·intro h
  obtain ⟨⟨a,b⟩,hq⟩:=Option.isSome_iff_exists.1 h
  exact ⟨a,b,znQ hq⟩
 ·rintro ⟨a,b,h,rfl⟩
  rw [zng h];rfl
end Go.Proofs.YtioglicfndkgiaaGreatDoor
