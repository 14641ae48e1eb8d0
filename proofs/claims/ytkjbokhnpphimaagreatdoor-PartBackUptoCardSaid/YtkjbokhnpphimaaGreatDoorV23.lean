/- Lemmas of the walk. -/
import Derived.Test.YtkjbokhnpphimaaGreatDoorV18
import Derived.Test.YtkjbokhnpphimaaGreatDoorV22
import Derived.BigQuiet
set_option maxHeartbeats 40000000
set_option linter.unusedVariables false
set_option linter.unusedSimpArgs false
namespace Go.Proofs.YtkjbokhnpphimaaGreatDoor
section
open Go.RowKit
set_option maxRecDepth 1000000
def zl7(w:World)(e:Ending)(w':World):Prop:=∃a:Int,e=.returned (.int .i64 a)∧Ext w w'
theorem zl1(w:World):Calls Tryz.prog 237 #[.string ⟨#[43,45]⟩,.int .i32 65533] w (zl7 w):=by
 have n0:=fun(w:World) (ty:TypeId)=>run_next_ascii (P:=Tryz.prog) w ⟨#[43,45]⟩ 0 ty (by decide) (by decide)
 have n1:=fun(w:World) (ty:TypeId)=>run_next_ascii (P:=Tryz.prog) w ⟨#[43,45]⟩ 1 ty (by decide) (by decide)
 have n2:=fun(w:World) (ty:TypeId)=>run_next_end (P:=Tryz.prog) w ⟨#[43,45]⟩ 2 ty (by decide)
 have HX:Hid (∀p,Ext w (w.iter ⟨#[43,45]⟩ p)):=fun p=>Ext.alloc _ _
 go_enter Tryz.func237,Tryz.ntmps237
 go_wp2
 refine wp_loop_rounds 3 ?_
 rw[rounds_succ]
 go_wp2
 rw[rounds_succ]
 go_wp2
 rw[rounds_succ]
 go_wp2
 go_ret
 exact⟨_,rfl,HX.out _⟩
theorem zjJ(r:Int)(w:World):Calls Tryz.prog 237 #[.string ⟨#[43,45]⟩,.int .i32 r] w (zl7 w):=by
 by_cases ha:0≤r∧r<128
 ·exact(Tryz.strings_IndexRune_ascii ⟨#[43,45]⟩ r w ha.1 ha.2).mono fun e w' h=>⟨_,h.1,by rw[h.2];exact Ext.refl _⟩
 ·by_cases he:r=65533
  ·subst he
   exact zl1 w
  ·have e1:(r==65533)=false:=beq_eq_false_iff_ne.2 he
   have a1:¬0≤r∨¬r<128:=by omega
   have hV:=fun w=>Tryz.utf8_ValidRune r w
   cases hv:Lib.validRune r
   ·rw[hv] at hV
    rcases a1 with a1|a1
    ·have a2:decide (0≤r)=false:=decide_eq_false a1
     go_enter Tryz.func237,Tryz.ntmps237
     go_wp2_with(go_at_call 262;(with_reducible refine(hV _).mono ?_);rintro e w1 ⟨rfl,rfl⟩)
     go_ret
     exact⟨_,rfl,Ext.refl _⟩
    ·have a2:decide (r<128)=false:=decide_eq_false a1
     go_enter Tryz.func237,Tryz.ntmps237
     go_wp2_with(go_at_call 262;(with_reducible refine(hV _).mono ?_);rintro e w1 ⟨rfl,rfl⟩)
     all_goals go_ret
     all_goals exact⟨_,rfl,Ext.refl _⟩
   ·rw[hv] at hV
    have hr0:0≤r:=by
     unfold Lib.validRune at hv
     rw[decide_eq_true_iff] at hv
     omega
    have hr1:128≤r:=by omega
    have a2:decide (r<128)=false:=decide_eq_false (by omega)
    have hval:Utf8.valid r=true:=by
     unfold Lib.validRune at hv
     rw[decide_eq_true_iff] at hv
     unfold Utf8.valid
     simp
     omega
    obtain⟨f1,f2,f3⟩:=encode_facts r hval hr1
    obtain⟨E,hE⟩:∃E,Utf8.encode r=E:=⟨_,rfl⟩
    rw[hE] at f1 f2
    have f4:∀h:E.size-1<E.size,128≤((E)[E.size-1]'h).toNat:=by rw[←hE];exact f3
    clear f3
    obtain⟨m,hm⟩:∃m,E.size=m+2:=⟨E.size-2,by omega⟩
    have hl:((E.size:Int)-1)=((m+1:Nat):Int):=by omega
    have hm2:m≤2:=by omega
    have hmlt:m+1<E.size:=by omega
    have f5:128≤((E)[m+1]'hmlt).toNat:=by
     have h9:E.size-1=m+1:=by omega
     have:=f4 (by omega)
     simp only[h9] at this
     exact this
    have hcv:∀w,(convert 21 9 (.int .i32 r)).run Tryz.prog w=.ok (.string E) w:=fun w=>by rw[←hE];exact run_convert_int_string w _ _ _ _ (by rw[Tryz.underlying21];rfl) Tryz.underlying9
    clear f4 f1 f2 hm hE
    by_cases h0:m=0
    ·subst h0
     go_enter Tryz.func237,Tryz.ntmps237
     go_wp2_with(go_at_call 262;(with_reducible refine(hV _).mono ?_);rintro e w1 ⟨rfl,rfl⟩)
     have q1:1<E.size:=hmlt
     have f6:128≤((E)[1]'q1).toNat:=f5
     have hne:(45:Int)≠(((E)[1]'q1).toNat:Int):=by omega
     have hnb:((((⟨#[43,45]⟩:ByteArray)[1]'(by decide)).toNat:Int) != (((E)[1]'q1).toNat:Int))=true:=by rw[bne_iff_ne];exact hne
     have hIB:∀w,Calls Tryz.prog 182 #[.string ByteArray.empty,.int .u8 (((E)[1]'q1).toNat:Int)] w fun e w'=>e=.returned (.int .i64 (-1))∧w'=w:=fun w=>by
      refine(Tryz.strings_IndexByte ByteArray.empty _ w).mono fun e w' h=>?_
      have e0:ByteArray.empty.data.toList=[]:=by rfl
      rw[e0] at h
      exact h
     have q2:(1:Int)<(E.size:Int):=by omega
     clear f5 hmlt
     refine wp_scope_straight ?_
     go_wp2
     refine wp_loop_rounds 1 ?_
     rw[rounds_succ]
     go_wp2
     refine wp_scope_straight ?_
     go_wp2
     refine zac (.read 0 (.read 1 (.read 2 (.read 3 (.read 4 (.read 5 (.read 6 .done))))))) (by kernel_rfl) (by kernel_rfl) ?_
     intro wD hxD
     have XE:Hid (Ext wD wD):=Ext.refl _
     repeat' ((first
      |refine zaf rfl rfl ?_
      |refine zad rfl rfl ?_
      |refine zai rfl rfl ?_
      |refine zab rfl rfl ?_
      |(refine zae (v:=?_) rfl rfl (fun w' hE=>?_) ?_;rotate_left 1;(· ((try(have hEx:=Ext.trans (Hid.out XE) hE));go_simp;(try go_bits);with_reducible rfl)))
      |refine walks_alt ?_ ?_
      | (refine zah rfl rfl (fun K hK=>?_);go_wp2_with (fail);refine hK _ _ (by first | assumption | exact Ext.alloc _ _ | exact Ext.refl _) ?_;clear hK K));try simp only [Act.put,Act.eval,evs])
     refine zag ?_
     go_wp2
     have HD1:=hid hxD
     clear hxD
     refine zac (.read 0 (.read 1 (.read 2 (.read 3 (.read 4 (.read 5 (.read 6 (.main 7 (.read 8 .done))))))))) (by kernel_rfl) (by kernel_rfl) ?_
     intro wD hxD
     have XE:Hid (Ext wD wD):=Ext.refl _
     repeat' ((first
      |refine zaf rfl rfl ?_
      |refine zad rfl rfl ?_
      |refine zai rfl rfl ?_
      |refine zab rfl rfl ?_
      |(refine zae (v:=?_) rfl rfl (fun w' hE=>?_) ?_;rotate_left 1;(· ((try(have hEx:=Ext.trans (Hid.out XE) hE));go_simp;(try go_bits);with_reducible rfl)))
      |refine walks_alt ?_ ?_
      | (refine zah rfl rfl (fun K hK=>?_);go_wp2_with ((go_at_call 182;(with_reducible refine (hIB _).mono ?_);rintro e w2 ⟨rfl,rfl⟩));refine hK _ _ (by first | assumption | exact Ext.alloc _ _ | exact Ext.refl _) ?_;clear hK K));try simp only [Act.put,Act.eval,evs])
     refine zag ?_
     have HD2:=hid (HD1.out.trans hxD)
     clear hxD HD1
     go_wp2
     all_goals simp only[Exit.noGoto,Exit.inBlock,Exit.then]
     all_goals go_ret
     all_goals exact⟨_,rfl,HD2.out⟩
    ·have h1:¬((m+1:Nat):Int)<2:=by omega
     have h2:decide (((m+1:Nat):Int)<2)=false:=decide_eq_false h1
     go_enter Tryz.func237,Tryz.ntmps237
     go_wp2_with(go_at_call 262;(with_reducible refine(hV _).mono ?_);rintro e w1 ⟨rfl,rfl⟩)
     refine wp_scope_straight ?_
     go_wp2
     refine wp_loop_rounds 1 ?_
     rw[rounds_succ]
     go_wp2
     simp only[Exit.noGoto]
     go_ret
     exact⟨_,rfl,Ext.refl _⟩
theorem zms(v:List UInt8):∀k,-1≤zb6 v k∧zb6 v k<(max k 1:Nat)
 |0=>by rw[zb6];omega
 |k+1=>by
  rw[zb6]
  have:=zms v k
  split
  ·omega
  ·omega
def zjv(n:Nat)(w:World)(e:Ending)(w':World):Prop:=∃q:Int,e=.returned (.int .i64 q)∧-1≤q∧q<(max n 1:Nat)∧Ext w w'
theorem zjD(s:ByteArray)(w:World)(h1:s.size=1)(x:UInt8)(hx:s[0]'(by omega)=x)(hx8:¬x.toNat<128) :
 Calls Tryz.prog 216 #[.string s,.string ⟨#[43,45]⟩] w (zjv s.size w):=by
 have h1':((s.size:Int)==1)=true:=by rw[beq_iff_eq];omega
 have hz:(128:Int)≤(x.toNat:Int):=by omega
 have hR:=fun w=>zjJ 65533 w
 unfold zl7 at hR
 have hs0:0<s.size:=by omega
 have hw:wrap32 (x.toNat:Int)=(x.toNat:Int):=by unfold wrap32;have:=x.toNat_lt;omega
 go_enter Tryz.func216,Tryz.ntmps216
 go_wp2_with(go_at_call 237;(with_reducible refine(hR _).mono ?_);rintro e w2 ⟨a,rfl,hx2⟩;have HX2:=hid hx2;clear hx2)
 all_goals go_ret
 ·exact⟨0,rfl,by omega,by omega,HX2.out⟩
 ·exact⟨-1,rfl,by omega,by omega,HX2.out⟩
theorem zli(s:ByteArray)(w:World)(hG:Ug w)(h2:2≤s.size)(h8:s.size≤8) :
 Calls Tryz.prog 216 #[.string s,.string ⟨#[43,45]⟩] w (zjv s.size w):=by
 have HG:=hid hG
 have h8z:decide ((8:Int)<(s.size:Int))=false:=decide_eq_false (by omega)
 have hU:=fun w=>Tryz.strings_shouldUseASCIISet s.size w
 simp only[h8z] at hU
 have h1:((s.size:Int)==1)=false:=by rw[beq_eq_false_iff_ne];omega
 have hR:=fun r w=>zjJ r w
 unfold zl7 at hR
 have hD:=fun(j:Nat) (hj:j+1≤s.size) w hT=>zod (s.extract 0 (j+1)) w hT (by rw[ByteArray.size_extract];omega) (by rw[ByteArray.size_extract];omega)
 unfold zkZ at hD
 have hsz:∀j:Nat,j+1≤s.size→(s.extract 0 (j+1)).size=j+1:=fun j hj=>by rw[ByteArray.size_extract];omega
 clear h8z hG
 go_enter Tryz.func216,Tryz.ntmps216
 go_wp2_with(go_at_call 238;(with_reducible refine(hU _).mono ?_);rintro e w2 ⟨rfl,rfl⟩)
 clear hU
 go_loopw [13] (fun i wr=>∃(j:Nat),j≤s.size∧i=.int .i64 (j:Int)∧Hid (Ext w2 wr)) (fun i _=>(intOf i).toNat)
 case atStart=>exact⟨s.size,by omega,rfl,Ext.refl w2⟩
 case round=>
  obtain⟨j,hj,rfl,HX⟩:=hrel
  cases j with
  |zero=>
   go_wp2
   go_ret
   exact⟨-1,rfl,by omega,by omega,HX.out⟩
  |succ k=>
   have hk:(0:Int)<((k+1:Nat):Int):=by omega
   have hks:¬(s.size:Int)<((k+1:Nat):Int):=by omega
   have hz:=hsz k hj
   go_wp2_with (first
    |(go_at_call 241;(with_reducible refine(hD k hj _ (HG.out.ext HX.out)).mono ?_);rintro e w4 ⟨r,z,rfl,hz1,hz2,hx4⟩;have HX4:=hid (HX.out.trans hx4);clear hx4)
    | (go_at_call 237;(with_reducible refine (hR _ _).mono ?_);rintro e w5 ⟨a,rfl,hx5⟩;have HX5:=hid (HX4.out.trans hx5);clear hx5))
   ·go_ret
    exact⟨(k:Int)+1-z,rfl,by omega,by omega,HX5.out⟩
   ·have hc:((k+1-z:Nat):Int)=(k:Int)+1-z:=by omega
    exact⟨⟨k+1-z,by omega,by rw[hc],HX5.out⟩,by simp only[intOf];omega⟩
theorem zkR(t:List UInt8)(w:World)(hG:Ug w)(ht:t.length≤3000000):Calls Tryz.prog 216 #[.string (str t),.string ⟨#[43,45]⟩] w (ziX t w):=by
 have hsz:(str t).size=t.length:=zaI t
 have hin:=zms t t.length
 have hat:(max (zb6 t t.length) 0).toNat=atP t:=rfl
 by_cases ha:(∀(j:Nat) b,(bys (str t))[j]?=some b→b.toNat<128)∨8<t.length
 ·have hc:Calls Tryz.prog 216 #[.string (str t),.string ⟨#[43,45]⟩] w fun e w'=>e=.returned (.int .i64 (zb6 (bys (str t)) (str t).size))∧Ext w w':=by
   rcases ha with ha|ha
   ·exact zjo (str t) w (by rw[hsz];omega) ha
   ·exact zgp (str t) w (by rw[hsz];exact ha) (by rw[hsz];omega)
  refine hc.mono fun e w' h=>?_
  rw[zao,hsz] at h
  exact⟨_,h.1,hin.1,hin.2,.inl hat,h.2⟩
 ·have h8:t.length≤8:=by
   rcases Nat.lt_or_ge 8 t.length with h|h
   ·exact absurd (.inr h) ha
   ·exact h
  have hodd:∃c∈t,¬c.toNat<128:=by
   apply Classical.byContradiction
   intro hn
   refine ha (.inl fun j b hb=>?_)
   rw[zao] at hb
   apply Classical.byContradiction
   intro h
   exact hn ⟨b,List.mem_of_getElem? hb,h⟩
  have hc:Calls Tryz.prog 216 #[.string (str t),.string ⟨#[43,45]⟩] w (zjv (str t).size w):=by
   obtain⟨c,hcm,hc8⟩:=hodd
   have hl:=List.length_pos_of_mem hcm
   by_cases h1:t.length=1
   ·have hct:c=t[0]'(by omega):=by
     obtain⟨i,hi,e⟩:=List.getElem_of_mem hcm
     have:i=0:=by omega
     subst this
     exact e.symm
    exact zjD (str t) w (by rw[hsz];exact h1) c (by rw[hct];rfl) hc8
   ·exact zli (str t) w hG (by rw[hsz];omega) (by rw[hsz];exact h8)
  refine hc.mono fun e w' h=>?_
  obtain⟨q,rfl,h1,h2,hx⟩:=h
  rw[hsz] at h2
  exact⟨q,rfl,h1,h2,.inr hodd,hx⟩
theorem zov(s:ByteArray)(w:World)(hG:Gu w)(hs:s.size≤3000000):Calls Tryz.prog 195 #[.string s] w (zfx (bys s) w):=by
 by_cases hi:(bys s).getLast?=some 105
 ·exact zrM s w hG.gl hs hi (zkR _ w hG.ug (by rw[List.length_dropLast,zaj];omega))
 ·exact zlr s w hG.gl (by omega) hi
end
section
set_option maxRecDepth 10000
theorem zoJ:∀(k u:Nat),1≤k→u<10 ^ k→(Lib.decDigits u).length≤k
 |0,_,h,_=>absurd h (by decide)
 |k+1,u,_,h=>by
  by_cases hu:u<10
  ·rw[zcp hu];simp
  ·rw[zhL hu,List.length_append,List.length_singleton]
   rcases k with _|k
   ·exact absurd h (by simpa using hu)
   ·have:=zoJ (k+1) (u / 10) (by omega) (by rw[Nat.pow_succ] at h;omega)
    omega
theorem zjh{u:Nat}(h:u≤1000000):(Lib.decDigits u).length≤9:=zoJ 9 u (by decide) (Nat.lt_of_le_of_lt h (by decide))
theorem zrf(u:Nat):(Lib.decDigits u).head?≠some 45∧(Lib.decDigits u).head?≠some 43:=by
 obtain⟨h1,-,h3⟩:=zcr u u (Nat.le_refl _)
 cases hd:Lib.decDigits u with
 |nil=>exact absurd hd h3
 |cons c t=>
  rw[hd] at h1
  simp only[List.all_cons,Bool.and_eq_true] at h1
  have hc:=(zaM c).1 h1.1
  constructor<;>· intro e;have:=Option.some.inj e;rw[this] at hc;exact absurd hc.1 (by decide)
theorem ziG{u:Nat}(h:u≤1000000):numR (Lib.decDigits u)=some (u:Int):=by
 obtain⟨h1,h2,h3⟩:=zcr u u (Nat.le_refl _)
 obtain⟨q1,q2⟩:=zrf u
 have e:sgnD (Lib.decDigits u)=Lib.decDigits u:=by unfold sgnD;rw[if_neg (by rintro(h|h);exact q1 h;exact q2 h)]
 have hl:1≤(Lib.decDigits u).length:=List.length_pos_iff.2 h3
 have hn:negB (Lib.decDigits u)=false:=by
  cases hd:Lib.decDigits u with
  |nil=>exact absurd hd h3
  |cons c t=>
   rw[hd] at q1
   have:c≠45:=fun e=>q1 (congrArg some e)
   unfold negB
   simp[this]
 unfold numR
 rw[e,if_pos ⟨hl,zjh h,h1⟩,hn,h2];rfl
theorem zkX{u:Nat}(h:u≤1000000):numR (45::Lib.decDigits u)=some (-(u:Int)):=by
 obtain⟨h1,h2,h3⟩:=zcr u u (Nat.le_refl _)
 have hl:1≤(Lib.decDigits u).length:=List.length_pos_iff.2 h3
 have e:sgnD (45::Lib.decDigits u)=Lib.decDigits u:=by unfold sgnD;rw[if_pos (.inl rfl)];rfl
 have hn:negB (45::Lib.decDigits u)=true:=by unfold negB;simp
 unfold numR
 rw[e,if_pos ⟨hl,zjh h,h1⟩,hn,h2];rfl
theorem zqj{u:Nat}(h:u≤1000000):numR (43::Lib.decDigits u)=some (u:Int):=by
 obtain⟨h1,h2,h3⟩:=zcr u u (Nat.le_refl _)
 have hl:1≤(Lib.decDigits u).length:=List.length_pos_iff.2 h3
 have e:sgnD (43::Lib.decDigits u)=Lib.decDigits u:=by unfold sgnD;rw[if_pos (.inr rfl)];rfl
 have hn:negB (43::Lib.decDigits u)=false:=by unfold negB;simp
 unfold numR
 rw[e,if_pos ⟨hl,zjh h,h1⟩,hn,h2];rfl
theorem zji{a:Int}(h:a.natAbs≤1000000):numR (Lib.itoa a)=some a:=by
 unfold Lib.itoa
 by_cases h0:a<0
 ·rw[if_pos h0,zkX h];congr 1;omega
 ·rw[if_neg h0,ziG (by omega)];congr 1;omega
theorem zpc{c:UInt8}(h:digC c=true):c≠43∧c≠45:=by
 have h1:=(zaM c).1 h
 constructor<;>· intro e;rw[e] at h1;exact absurd h1.1 (by decide)
theorem zfQ{v:List UInt8}:∀k,(∀i,1≤i→i<k→v[i]?≠some 43∧v[i]?≠some 45)→zcC v k=0
 |0,_=>rfl
 |k+1,h=>by
  rw[zcC,if_neg (by rintro⟨h1,h2|h2⟩;exact(h k h1 (by omega)).1 h2;exact(h k h1 (by omega)).2 h2)]
  exact zfQ k (fun i h1 h2=>h i h1 (by omega))
theorem zjQ{v:List UInt8}{n:Nat}(hn:1≤n)(hv:v[n]?=some 43∨v[n]?=some 45):∀k,(∀i,n<i→i<n+1+k→v[i]?≠some 43∧v[i]?≠some 45)→zcC v (n+1+k)=n
 |0,_=>by show zcC v (n+1)=n;rw[zcC,if_pos ⟨hn,hv⟩]
 |k+1,h=>by
  show zcC v (n+1+k+1)=n
  rw[zcC,if_neg (by rintro⟨h1,h2|h2⟩;exact(h _ (by omega) (by omega)).1 h2;exact(h _ (by omega) (by omega)).2 h2)]
  exact zjQ hn hv k (fun i h1 h2=>h i h1 (by omega))
theorem zfF{d:List UInt8}(h:d.all digC=true)(i:Nat):(d++[105])[i]?≠some 43∧(d++[105])[i]?≠some 45:=by
 rcases Nat.lt_trichotomy i d.length with hi|hi|hi
 ·rw[List.getElem?_append_left hi,List.getElem?_eq_getElem hi]
  have:=zpc (List.all_eq_true.1 h _ (List.getElem_mem hi))
  exact⟨fun e=>this.1 (Option.some.inj e),fun e=>this.2 (Option.some.inj e)⟩
 ·subst hi;simp
 ·rw[List.getElem?_eq_none (by simp;omega)];simp
theorem zrp{u:Nat}(h:[49]=Lib.decDigits u):u=1:=by
 have:=(zcr u u (Nat.le_refl _)).2.1
 rw[←h] at this
 exact this.symm
theorem zsF{b:Int}{d:List UInt8}(hp:0<b)(hb:b.natAbs≤1000000)(d1:d.all digC=true)(d3:(if d=[] then[49] else d)=Lib.decDigits b.natAbs):secR d=some b∧secR (43::d)=some b:=by
 by_cases hd:d=[]
 ·rw[if_pos hd] at d3
  have:=zrp d3
  have hb1:b=1:=by omega
  subst hd
  rw[hb1]
  exact⟨rfl,rfl⟩
 ·rw[if_neg hd] at d3
  obtain⟨n1,n2⟩:=zjw d1
  constructor
  ·unfold secR
   rw[if_neg (by rintro(h|h);exact hd h;exact n1 h),if_neg n2,d3,ziG hb]
   congr 1;omega
  ·unfold secR
   rw[if_neg (by simp[hd]),if_neg (by simp),d3,zqj hb]
   congr 1;omega
theorem zsI{b:Int}{d:List UInt8}(hp:b<0)(hb:b.natAbs≤1000000)(d3:(if d=[] then[45,49] else 45::d)=45::Lib.decDigits b.natAbs):secR (45::d)=some b:=by
 by_cases hd:d=[]
 ·rw[if_pos hd] at d3
  have:=zrp (List.cons.inj d3).2
  have hb1:b = -1:=by omega
  subst hd
  rw[hb1]
  rfl
 ·rw[if_neg hd] at d3
  have e:=(List.cons.inj d3).2
  unfold secR
  rw[if_neg (by simp),if_neg (by simp[hd]),e,zkX hb]
  congr 1;omega
theorem zff{v:List UInt8}{a b:Int}(h1:(if 0<atR v then numR (v.take (atR v)) else some 0)=some a)(h2:(if atR v<v.length then secR ((v.take (v.length-1)).drop (atR v)) else some 0)=some b)(hw:zaE a b=true)(hp:zaR a b=v):zaW v=some (a,b):=by
 unfold zaW
 rw[h1,h2]
 exact if_pos ⟨hw,hp⟩
theorem at_i{t:List UInt8}:atR (t++[105])=zcC (t++[105]) (t.length+1):=by
 unfold atR
 rw[if_pos (by simp),List.length_append,List.length_singleton]
theorem zmw(t:List UInt8):(t++[105]).take ((t++[105]).length-1)=t:=by simp
theorem zrC{p d:List UInt8}{c:UInt8}(hp:p≠[])(hc:c=43∨c=45)(h:d.all digC=true):atR (p++c::d++[105])=p.length:=by
 rw[at_i,show(p++c::d).length+1=p.length+1+(d.length+1) by simp;omega]
 refine zjQ (List.length_pos_iff.2 hp) ?_ _ ?_
 ·rcases hc with rfl|rfl<;>simp
 ·intro i h1 h2
  have e:(p++c::d++[105])[i]?=(d++[105])[i-p.length-1]?:=by
   rw[List.append_assoc,List.cons_append,List.getElem?_append_right (by omega),show i-p.length=(i-p.length-1)+1 by omega,List.getElem?_cons_succ]
   rfl
  rw[e]
  exact zfF h _
theorem zmS{a b:Int}(h:zaE a b=true):zaW (zaR a b)=some (a,b):=by
 obtain⟨ha,hb⟩:=zfw h
 by_cases b0:b=0
 ·subst b0
  have e:zaR a 0=Lib.itoa a:=by unfold zaR;rw[if_pos rfl]
  have hat:atR (Lib.itoa a)=(Lib.itoa a).length:=by unfold atR;rw[if_neg (zgO a)]
  refine zff ?_ ?_ h rfl
  ·rw[e,hat,if_pos (List.length_pos_iff.2 (ze4 a)),List.take_length];exact zji ha
  ·rw[e,hat,if_neg (by omega)]
 ·by_cases a0:a=0
  ·have e:zaR a b=zaH b:=by unfold zaR;rw[if_neg b0,if_pos a0]
   by_cases hp:0<b
   ·obtain⟨d,d1,d2,d3⟩:=ziR hp
    have hat:atR (d++[105])=0:=by rw[at_i];exact zfQ _ (fun i _ _=>zfF d1 i)
    refine zff ?_ ?_ h rfl
    ·rw[e,d2,hat,if_neg (by omega),a0]
    ·rw[e,d2,hat,if_pos (by simp),zmw,List.drop_zero];exact(zsF hp hb d1 d3).1
   ·obtain⟨d,d1,d2,d3⟩:=zjg (b:=b) (by omega)
    have hat:atR (45::d++[105])=0:=by
     rw[at_i]
     refine zfQ _ (fun i h1 _=>?_)
     have e:(45::d++[105])[i]?=(d++[105])[i-1]?:=by
      rw[List.cons_append,show i=(i-1)+1 by omega,List.getElem?_cons_succ];rfl
     rw[e]
     exact zfF d1 _
    refine zff ?_ ?_ h rfl
    ·rw[e,d2,hat,if_neg (by omega),a0]
    ·rw[e,d2,hat,if_pos (by simp),zmw,List.drop_zero];exact zsI (by omega) hb d3
  ·by_cases hp:0<b
   ·obtain⟨d,d1,d2,d3⟩:=ziR hp
    have e:zaR a b=Lib.itoa a++43::d++[105]:=by unfold zaR;rw[if_neg b0,if_neg a0,if_pos hp,d2];simp
    have hat:=zrC (p:=Lib.itoa a) (d:=d) (ze4 a) (.inl (rfl:(43:UInt8)=43)) d1
    refine zff ?_ ?_ h rfl
    ·rw[e,hat,if_pos (List.length_pos_iff.2 (ze4 a)),List.append_assoc,List.take_left];exact zji ha
    ·rw[e,hat,if_pos (by simp),zmw,List.drop_left];exact(zsF hp hb d1 d3).2
   ·obtain⟨d,d1,d2,d3⟩:=zjg (b:=b) (by omega)
    have e:zaR a b=Lib.itoa a++45::d++[105]:=by unfold zaR;rw[if_neg b0,if_neg a0,if_neg hp,d2];simp
    have hat:=zrC (p:=Lib.itoa a) (d:=d) (ze4 a) (.inr (rfl:(45:UInt8)=45)) d1
    refine zff ?_ ?_ h rfl
    ·rw[e,hat,if_pos (List.length_pos_iff.2 (ze4 a)),List.append_assoc,List.take_left];exact zji ha
    ·rw[e,hat,if_pos (by simp),zmw,List.drop_left];exact zsI (by omega) hb d3
theorem znJ{v:List UInt8}{a b:Int}(h:zaW v=some (a,b)):zaE a b=true∧zaR a b=v:=by
 unfold zaW zdV at h
 split at h
 ·split at h
  ·rename_i hc
   cases h
   exact hc
  ·cases h
 ·cases h
theorem zm6(v:List UInt8):(zaW v).isSome=(phB v).isSome:=by
 rw[Bool.eq_iff_iff,zss]
 constructor
 ·intro h
  obtain⟨⟨a,b⟩,hq⟩:=Option.isSome_iff_exists.1 h
  exact⟨a,b,znJ hq⟩
 ·rintro⟨a,b,h,rfl⟩
  rw[zmS h];rfl
end
section
open Go.RowKit
set_option maxRecDepth 100000
theorem Bx.setS{w wr:World}{g:Nat}{T:TypeId}{x:Value}(h:Bx w wr g T #[x])(v:Value):Bx w (wr.setCell ⟨g,0,none⟩ v) g T #[v]:=h.set 0 v
def za6(s:List UInt8):Except NameErr (List (List Ava)):=
 if 1000<s.length then .error .long
 else if s=[] then .ok []
 else if 12<(splitF 44 [] s).length then .error .long
 else match (splitF 44 [] s).mapM zbk with
  |none=>.error .form
  |some l=>.ok l
def okL{α:Type}(r:Except NameErr (List α)):List α:=match r with|.ok l=>l|.error _=>[]
def zaJ{α:Type}(r:Except NameErr α):Int:=match r with|.ok _=>0|.error .long=>4|.error .form=>2
def zmj(w:World)(s:List UInt8)(e:Ending)(w':World):Prop:=
 ∃A n c,e=.returned (.tuple #[.agg #[.slice A n c],.int .i64 (zaJ (za6 s))])∧Row Elem.part (fun b=>w.heap.size≤b) w' A n c (okL (za6 s))∧Ext w w'
def zlp(w:World)(s:List UInt8)(e:Ending)(w':World):Prop:=
 ∃A n c,e=.returned (.tuple #[.slice A n c,.int .i64 (zaJ (za6 s))])∧Row Elem.part (fun b=>w.heap.size≤b) w' A n c (okL (za6 s))∧Ext w w'
theorem zg7(s:ByteArray)(w:World)(hG:Gl w):Calls Tryz.prog 110 #[.string s] w (zmj w (bys s)):=by
 have HG:=hid hG
 have HPD:Hid (za6 (bys s)=if 1000<(bys s).length then .error .long else if bys s=[] then .ok [] else if 12<(splitF 44 [] (bys s)).length then .error .long
  else match (splitF 44 [] (bys s)).mapM zbk with | none=>.error .form | some l=>.ok l):=rfl
 clear hG
 by_cases hl:1000<s.size
 ·have hl':1000<(s.size:Int):=by omega
  have HF:Hid (za6 (bys s)=.error .long):=by show _=_;rw[HPD.out,if_pos (by rw[zaj];exact hl)]
  have HBX:=hid (Bx.make (Ext.refl w) #[.slice none 0 0] 165)
  clear hl HPD
  go_enter Tryz.func110,Tryz.ntmps110
  go_wp2
  (try simp only[Exit.inBlock,Exit.then])
  refine zaq _ rfl rfl HBX.out Tryz.underlying165 rfl (by kernel_rfl) rfl ?_
  exact⟨none,0,0,by rw[HF.out];rfl,by rw[HF.out];exact Row.nil _ _ _,HBX.out.ext⟩
 ·have hl':¬1000<(s.size:Int):=by omega
  have Hs:Hid (s.size≤1000):=by show _≤_;omega
  rw[if_neg (by rw[zaj];exact hl)] at HPD
  by_cases h0:s.size=0
  ·have e1:=zdf h0
   have HF:Hid (za6 (bys s)=.ok []):=by show _=_;rw[HPD.out,if_pos (by rw[zb3 h0];rfl)]
   have HBX:=hid (Bx.make (Ext.refl w) #[.slice none 0 0] 165)
   clear hl h0 HPD
   go_enter Tryz.func110,Tryz.ntmps110
   go_wp2
   (try simp only[Exit.inBlock,Exit.then])
   refine zaq _ rfl rfl HBX.out Tryz.underlying165 rfl (by kernel_rfl) rfl ?_
   exact⟨none,0,0,by rw[HF.out];rfl,by rw[HF.out];exact Row.nil _ _ _,HBX.out.ext⟩
  ·have e1:=zfj h0
   rw[if_neg (fun h=>h0 (by rw[←zaj,h];rfl))] at HPD
   have HSP:∀w,Calls Tryz.prog 145 #[.string s,.int .u8 44] w fun e w'=>∃v,e=.returned v∧GrowS w w' v (strs (splitF 44 [] (bys s))):=fun w=>zkf s 44 (by decide) w (by omega)
   have HPL:Hid (∀p∈splitF 44 [] (bys s),p.length≤1000):=fun p hp=>by have:=zgG hp;rw[zaj] at this;omega
   clear hl h0
   generalize splitF 44 [] (bys s)=P at*
   by_cases h12:12<P.length
   ·have h12':12<(P.length:Int):=by omega
    have HF:Hid (za6 (bys s)=.error .long):=by show _=_;rw[HPD.out,if_pos h12]
    clear h12 HPD
    go_enter Tryz.func110,Tryz.ntmps110
    go_wp2_with(go_at_call 145;(with_reducible refine(HSP _).mono ?_);rintro e w1 ⟨v1,rfl,hg1⟩;have HB:=(Bx.make (Ext.refl w) #[.slice none 0 0] 165).later hg1.ext;have r0:=HB.cell (i:=0) rfl;have f0:=HB.frozen 0;have HBX:=hid HB;obtain⟨A1,c1,rfl,hr1⟩:=hg1.row;clear hg1 hr1 HB)
    (try simp only[Exit.inBlock,Exit.then])
    refine zaq _ rfl rfl (HBX.out.setS (.slice none 0 0)) Tryz.underlying165 rfl (by kernel_rfl) rfl ?_
    exact⟨none,0,0,by rw[HF.out];rfl,by rw[HF.out];exact Row.nil _ _ _,(HBX.out.setS (.slice none 0 0)).ext⟩
   ·have h12':¬12<(P.length:Int):=by omega
    have hn12:P.length≤12:=by omega
    rw[if_neg h12] at HPD
    have HNO:Hid (P.mapM zbk=none→za6 (bys s)=.error .form):=by intro h;rw[HPD.out,h]
    have HYS:Hid (∀l,P.mapM zbk=some l→za6 (bys s)=.ok l):=by intro l h;rw[HPD.out,h]
    clear h12 HPD
    go_enter Tryz.func110,Tryz.ntmps110
    go_wp2_with(go_at_call 145;(with_reducible refine(HSP _).mono ?_);rintro e w1 ⟨v1,rfl,hg1⟩;have HBX:=hid ((Bx.make (Ext.refl w) #[.slice none 0 0] 165).later hg1.ext);have HX1:=hid ((Ext.alloc w (.cells #[.slice none 0 0] 165)).trans hg1.ext);obtain⟨A1,c1,rfl,hr1⟩:=hg1.row;have HR1:=hid hr1;clear hg1 hr1)
    rw[List.length_map] at HR1
    go_loopw [25] (fun i wr=>∃(j:Nat) (v:Value) (l0:List (List Ava)),j≤P.length∧i=.int .i64 j∧Hid (GrowR Elem.part 168 (some w1.heap.size) w1 wr v l0)∧Hid (Bx w1 wr w1.heap.size 165 #[v])∧Hid ((P.take j).mapM zbk=some l0)∧Hid (l0.length=j)) (fun i _=>P.length-(intOf i).toNat)
    case atStart=>exact⟨0,_,[],by omega,rfl,GrowR.nil (Ext.alloc _ _) (fun g hg=>by injection hg with hg;subst hg;simp),Bx.make (Ext.refl w1) _ _,by simp[Hid],rfl⟩
    case round=>
     obtain⟨j,v,l0,hj,rfl,HGR,HBN,HM,HLN⟩:=hrel
     by_cases hlt:j<P.length
     ·have hlt':(j:Int)<(P.length:Int):=by omega
      obtain⟨b,o,p,rfl,hp,e2⟩:=zfh (HR1.out.ext HGR.out.ext) hlt
      have hpl:=HPL.out p (List.mem_of_getElem? hp)
      have HPA:∀w,Gl w→Calls Tryz.prog 146 #[.string (str p)] w (zew w p):=fun w hG=>by
       have:=zjB (str p) w hG (by rw[zaI];omega)
       rwa[zao] at this
      unfold zew at HPA
      cases hav:zbk p with
      |none=>
       rw[hav] at HPA
       have HF:=hid (HNO.out (zd3 (List.mem_of_getElem? hp) hav))
       clear hp hav
       go_wp2_with(go_at_call 146;(with_reducible refine(HPA _ (HG.out.ext (HX1.out.trans HGR.out.ext))).mono ?_);rintro e w2 ⟨A2,n2,c2,rfl,-,hx2⟩;have HB:=HBX.out.later (HGR.out.ext.trans hx2);have r0:=HB.cell (i:=0) rfl;have f0:=HB.frozen 0;have HBY:=hid HB;clear hx2 HB)
       (try simp only[Exit.inBlock,Exit.then])
       refine zaq _ rfl rfl (HBY.out.setS (.slice none 0 0)) Tryz.underlying165 rfl (by kernel_rfl) rfl ?_
       exact⟨none,0,0,by rw[HF.out];rfl,by rw[HF.out];exact Row.nil _ _ _,(HBY.out.setS (.slice none 0 0)).ext⟩
      |some x=>
       rw[hav] at HPA
       have HY:=hid (zfl HM.out hp hav)
       have HL2:Hid ((l0++[x]).length=j+1):=by show _=_;rw[List.length_append,HLN.out];rfl
       have HNB:=hid (HGR.out.apart w1.heap.size rfl).1
       clear hp hav
       go_wp2_with (first
        |(go_at_call 146;(with_reducible refine(HPA _ (HG.out.ext (HX1.out.trans HGR.out.ext))).mono ?_);rintro e w2 ⟨A2,n2,c2,rfl,hr2,hx2⟩;have HR2:=hid (HGR.out.fresh hx2 (Nat.le_refl _) (E:=Elem.part) (u:=[.slice A2 n2 c2]) (x:=x) ⟨A2,n2,c2,rfl,hr2⟩);have HG2:=hid (HGR.out.later hx2);have HB2:=hid (HBN.out.later hx2);have n0:=HB2.out.cell (i:=0) rfl;clear hr2 hx2)
        | (at_builtin;refine zlT rfl _ _ rfl v l0 rfl HG2.out (A:=A2) (n:=n2) (c:=c2) x (by obtain ⟨A3,n3,c3,he,hr⟩:=HR2.out;injection he with he _;injection he with h1 h2 h3;subst h1 h2 h3;exact hr) rfl (by have:=HLN.out;omega) ?_;intro v' w5 hg5 hgr5 hb5;obtain ⟨A5,c5,rfl,-⟩:=hg5.row;simp only [List.length_append,List.length_cons,List.length_nil,Nat.zero_add] at hg5;have HG5:=hid hg5;have HB5:=(HB2.out.later (Ext.alloc _ _)).grown hgr5 HNB.out hb5;have n1:=HB5.cell (i:=0) rfl;have f1:=HB5.frozen 0;have HB6:=hid HB5;clear hg5 hgr5 hb5 HB5))
       exact⟨⟨j+1,_,_,by omega,by go_num,HG5.out.setL 0 _,HB6.out.setS _,HY,HL2⟩,by simp[intOf];omega⟩
     ·obtain rfl:j=P.length:=by omega
      have HMA:Hid (za6 (bys s)=.ok l0):=HYS.out l0 (by rw[←HM.out,List.take_length])
      obtain⟨A2,c2,rfl,hr2⟩:=HGR.out.row
      have n0:=HBN.out.cell (i:=0) rfl
      have HB:=HBX.out.later HGR.out.ext
      have r0:=HB.cell (i:=0) rfl
      have f0:=HB.frozen 0
      have HBY:=hid HB
      have HR2:=hid hr2
      have hX1:=zaz HX1.out
      have hlt0:Hid (w.heap.size<w1.heap.size):=HBX.out.lt
      clear HB hr2 HNO HYS HM
      go_wp2
      (try simp only[Exit.inBlock,Exit.then])
      refine zaq _ rfl rfl (HBY.out.setS (.slice A2 l0.length c2)) Tryz.underlying165 rfl (by kernel_rfl) rfl ?_
      refine⟨A2,l0.length,c2,by rw[HMA.out];rfl,?_,(HBY.out.setS (.slice A2 l0.length c2)).ext⟩
      rw[HMA.out]
      refine(HR2.out.same (w':=_) fun b hb=>heap_setCell_other _ _ _ _ ?_).mono fun b _ hb=>Nat.le_trans hX1 hb
      have:=hlt0.out
      show b≠w.heap.size
      omega
theorem ziQ(s:ByteArray)(w:World)(hG:Gl w):Calls Tryz.prog 92 #[.string s] w (zlp w (bys s)):=by
 have HG:=hid hG
 have HPD:Hid (za6 (bys s)=if 1000<(bys s).length then .error .long else if bys s=[] then .ok [] else if 12<(splitF 44 [] (bys s)).length then .error .long
  else match (splitF 44 [] (bys s)).mapM zbk with | none=>.error .form | some l=>.ok l):=rfl
 clear hG
 by_cases hl:1000<s.size
 ·have hl':1000<(s.size:Int):=by omega
  have HF:Hid (za6 (bys s)=.error .long):=by show _=_;rw[HPD.out,if_pos (by rw[zaj];exact hl)]
  clear hl HPD
  go_enter Tryz.func92,Tryz.ntmps92
  go_wp2
  go_ret2
  exact⟨none,0,0,by rw[HF.out];rfl,by rw[HF.out];exact Row.nil _ _ _,Ext.refl _⟩
 ·have hl':¬1000<(s.size:Int):=by omega
  have Hs:Hid (s.size≤1000):=by show _≤_;omega
  rw[if_neg (by rw[zaj];exact hl)] at HPD
  by_cases h0:s.size=0
  ·have e1:=zdf h0
   have HF:Hid (za6 (bys s)=.ok []):=by show _=_;rw[HPD.out,if_pos (by rw[zb3 h0];rfl)]
   clear hl h0 HPD
   go_enter Tryz.func92,Tryz.ntmps92
   go_wp2
   go_ret2
   exact⟨none,0,0,by rw[HF.out];rfl,by rw[HF.out];exact Row.nil _ _ _,Ext.refl _⟩
  ·have e1:=zfj h0
   rw[if_neg (fun h=>h0 (by rw[←zaj,h];rfl))] at HPD
   have HSP:∀w,Calls Tryz.prog 132 #[.string s,.int .u8 44] w fun e w'=>∃v,e=.returned v∧GrowS w w' v (strs (splitF 44 [] (bys s))):=fun w=>zio s 44 (by decide) w (by omega)
   have HPL:Hid (∀p∈splitF 44 [] (bys s),p.length≤1000):=fun p hp=>by have:=zgG hp;rw[zaj] at this;omega
   clear hl h0
   generalize splitF 44 [] (bys s)=P at*
   by_cases h12:12<P.length
   ·have h12':12<(P.length:Int):=by omega
    have HF:Hid (za6 (bys s)=.error .long):=by show _=_;rw[HPD.out,if_pos h12]
    clear h12 HPD
    go_enter Tryz.func92,Tryz.ntmps92
    go_wp2_with(go_at_call 132;(with_reducible refine(HSP _).mono ?_);rintro e w1 ⟨v1,rfl,hg1⟩;have HX1:=hid hg1.ext;obtain⟨A1,c1,rfl,hr1⟩:=hg1.row;clear hg1 hr1)
    go_ret2
    exact⟨none,0,0,by rw[HF.out];rfl,by rw[HF.out];exact Row.nil _ _ _,HX1.out⟩
   ·have h12':¬12<(P.length:Int):=by omega
    have hn12:P.length≤12:=by omega
    rw[if_neg h12] at HPD
    have HNO:Hid (P.mapM zbk=none→za6 (bys s)=.error .form):=by intro h;rw[HPD.out,h]
    have HYS:Hid (∀l,P.mapM zbk=some l→za6 (bys s)=.ok l):=by intro l h;rw[HPD.out,h]
    clear h12 HPD
    go_enter Tryz.func92,Tryz.ntmps92
    go_wp2_with(go_at_call 132;(with_reducible refine(HSP _).mono ?_);rintro e w1 ⟨v1,rfl,hg1⟩;have HX1:=hid hg1.ext;obtain⟨A1,c1,rfl,hr1⟩:=hg1.row;have HR1:=hid hr1;clear hg1 hr1)
    rw[List.length_map] at HR1
    go_loopw [5,21] (fun v i wr=>∃(j:Nat) (l0:List (List Ava)),j≤P.length∧i=.int .i64 j∧Hid (GrowR Elem.part 149 none w1 wr v l0)∧Hid ((P.take j).mapM zbk=some l0)∧Hid (l0.length=j)) (fun _ i _=>P.length-(intOf i).toNat)
    case atStart=>exact⟨0,[],by omega,rfl,GrowR.nil (Ext.refl _) (fun g hg=>by cases hg),by simp[Hid],rfl⟩
    case round=>
     obtain⟨j,l0,hj,rfl,HGR,HM,HLN⟩:=hrel
     by_cases hlt:j<P.length
     ·have hlt':(j:Int)<(P.length:Int):=by omega
      obtain⟨b,o,p,rfl,hp,e2⟩:=zfh (HR1.out.ext HGR.out.ext) hlt
      have hpl:=HPL.out p (List.mem_of_getElem? hp)
      have HPA:∀w,Gl w→Calls Tryz.prog 133 #[.string (str p)] w (zew w p):=fun w hG=>by
       have:=zjx (str p) w hG (by rw[zaI];omega)
       rwa[zao] at this
      unfold zew at HPA
      cases hav:zbk p with
      |none=>
       rw[hav] at HPA
       have HF:=hid (HNO.out (zd3 (List.mem_of_getElem? hp) hav))
       clear hp hav
       go_wp2_with(go_at_call 133;(with_reducible refine(HPA _ (HG.out.ext (HX1.out.trans HGR.out.ext))).mono ?_);rintro e w2 ⟨A2,n2,c2,rfl,-,hx2⟩;have HX2:=hid hx2;clear hx2)
       go_ret2
       exact⟨none,0,0,by rw[HF.out];rfl,by rw[HF.out];exact Row.nil _ _ _,HX1.out.trans (HGR.out.ext.trans HX2.out)⟩
      |some x=>
       rw[hav] at HPA
       have HY:=hid (zfl HM.out hp hav)
       have HL2:Hid ((l0++[x]).length=j+1):=by show _=_;rw[List.length_append,HLN.out];rfl
       clear hp hav
       go_wp2_with (first
        |(go_at_call 133;(with_reducible refine(HPA _ (HG.out.ext (HX1.out.trans HGR.out.ext))).mono ?_);rintro e w2 ⟨A2,n2,c2,rfl,hr2,hx2⟩;have HR2:=hid (HGR.out.fresh hx2 (Nat.le_refl _) (E:=Elem.part) (u:=[.slice A2 n2 c2]) (x:=x) ⟨A2,n2,c2,rfl,hr2⟩);have HG2:=hid (HGR.out.later hx2);clear hr2 hx2)
        | (at_builtin;refine zjF rfl _ _ rfl _ l0 rfl HG2.out (A:=A2) (n:=n2) (c:=c2) x (by obtain ⟨A3,n3,c3,he,hr⟩:=HR2.out;injection he with he _;injection he with h1 h2 h3;subst h1 h2 h3;exact hr) rfl (by have:=HLN.out;omega) ?_;intro v' w5 hg5 hgr5 hb5;have HG5:=hid hg5;clear hg5 hgr5 hb5))
       exact⟨⟨j+1,_,by omega,by go_num,HG5,HY,HL2⟩,by simp[intOf];omega⟩
     ·obtain rfl:j=P.length:=by omega
      have HMA:Hid (za6 (bys s)=.ok l0):=HYS.out l0 (by rw[←HM.out,List.take_length])
      obtain⟨A2,c2,rfl,hr2⟩:=HGR.out.row
      have HR2:=hid hr2
      clear hr2 HNO HYS HM
      go_wp2
      go_ret2
      refine⟨A2,l0.length,c2,by rw[HMA.out];rfl,?_,HX1.out.trans HGR.out.ext⟩
      rw[HMA.out]
      exact HR2.out.mono fun b _ hb=>Nat.le_trans (zaz HX1.out) hb
theorem zkE{s:List UInt8}{l:List Ava}(h:zbk s=some l):zan l=true:=by
 unfold zbk at h
 split at h
 ·cases h
 ·split at h
  ·injection h with h;subst h;assumption
  ·cases h
theorem zeb{s:List UInt8}{l:List (List Ava)}(h:za6 s=.ok l):∀p∈l,zan p=true:=by
 unfold za6 at h
 split at h
 ·cases h
 ·split at h
  ·injection h with h;subst h;simp
  ·split at h
   ·cases h
   ·split at h
    ·cases h
    ·rename_i l' hm
     injection h with h
     subst h
     intro p hp
     obtain⟨x,_,hx⟩:=zgA hm p hp
     exact zkE hx
theorem zhA{s:List UInt8}{l:List (List Ava)}(h:za6 s=.ok l):l.length≤12:=by
 unfold za6 at h
 split at h
 ·cases h
 ·split at h
  ·injection h with h;subst h;simp
  ·split at h
   ·cases h
   ·split at h
    ·cases h
    ·rename_i l' hm
     injection h with h
     subst h
     have:=zmg hm
     omega
def zcc(p:List Ava):List UInt8:=zb8 (za8 p)
theorem ziu:∀l:List Ava,(∀a∈l,zbV a=true)→(zaZ l).length≤700 * l.length
 |[],_=>by simp[zaZ]
 |[a],h=>by
  have h1:=zdJ (h a (by simp))
  have h2:=zcn a.val true
  simp only[zaZ,List.length_append,List.length_cons,List.length_nil]
  omega
 |a::b::t,h=>by
  have h1:=zdJ (h a (by simp))
  have h2:=zcn a.val true
  have h3:=ziu (b::t) (fun x hx=>h x (by simp[hx]))
  simp only[zaZ,List.length_append,List.length_cons] at h3 ⊢
  omega
theorem zoc(p:List Ava):(zcc p).length≤2100:=by
 unfold zcc zb8
 split
 ·rename_i h
  have h1:=ziu _ (zcW h)
  have h2:=zdv h
  omega
 ·simp
theorem zml:∀ws:List (List UInt8),(zaY ws).length≤(ws.map List.length).sum+ws.length
 |[]=>by simp[zaY]
 |[x]=>by simp[zaY]
 |x::y::t=>by
  have:=zml (y::t)
  simp only[zaY,List.length_append,List.length_cons,List.map_cons,List.sum_cons] at this ⊢
  omega
theorem zrs{c:Nat}:∀{l:List (List UInt8)},(∀x∈l,x.length≤c)→(l.map List.length).sum≤c * l.length
 |[],_=>by simp
 |x::t,h=>by
  have h1:=h x (by simp)
  have h2:=zrs (l:=t) (fun y hy=>h y (by simp[hy]))
  simp only[List.map_cons,List.sum_cons,List.length_cons,Nat.mul_succ]
  omega
theorem zjG(l:List (List Ava))(h:l.length≤12):(zaY (l.map zcc)).length≤30000:=by
 have h1:=zml (l.map zcc)
 have h2:=zrs (c:=2100) (l:=l.map zcc) (fun x hx=>by obtain⟨p,_,rfl⟩:=List.mem_map.1 hx;exact zoc p)
 rw[List.length_map] at h1 h2
 omega
theorem zdX(s:List UInt8):zak s=match za6 s with|.error e=>.error e|.ok l=>if 1000<(zaY (l.map zcc)).length then .error .long else .ok (l.map zcc):=by
 unfold zak za6
 by_cases h1:1000<s.length
 ·simp[h1]
 ·rw[if_neg h1,if_neg h1]
  by_cases h2:s=[]
  ·rw[if_pos h2,if_pos h2];rfl
  ·rw[if_neg h2,if_neg h2]
   by_cases h3:12<(splitF 44 [] s).length
   ·rw[if_pos h3,if_pos h3]
   ·rw[if_neg h3,if_neg h3]
    cases(splitF 44 [] s).mapM zbk<;>rfl
def fitB(l:List (List UInt8)):List UInt8×Int:=if 12<l.length∨1000<(zaY l).length then([],4) else(zaY l,0)
theorem zsa{S:Nat→Prop}{A:Option Addr}{n c:Nat}{l:List (List UInt8)}{w:World}(h:Row Elem.str S w A n c (strs l))(hl:l.length≤1000000)(hj:(zaY l).length≤1000000000) :
 Calls Tryz.prog 113 #[.slice A n c] w fun e w'=>e=.returned (.tuple #[.string (str (fitB l).1),.int .i64 (fitB l).2])∧Ext w w':=by
 have hn:n=l.length:=by rw[h.len,List.length_map]
 have HJ:∀w',Ext w w'→Calls Tryz.prog 64 #[.slice A n c,.string ⟨#[44]⟩] w' fun e w''=>e=.returned (.string (str (zaY l)))∧Ext w' w'':=fun w' hx=>by
  have:=zet (strs l) ⟨#[44]⟩ (h.ext hx) (by rw[List.length_map];omega) (by rw[zcX];show(Lib.join l [44]).length≤_;rw[zha];omega)
  rwa[zc5,zha] at this
 have HFB:Hid (fitB l=if 12<l.length∨1000<(zaY l).length then([],4) else(zaY l,0)):=rfl
 have HJL:=hid hj
 generalize zaY l=m at*
 clear hl h hj
 by_cases h12:12<l.length
 ·have h12':12<(n:Int):=by omega
  have HT:Hid (fitB l=([],4)):=by show _=_;rw[HFB.out,if_pos (.inl h12)]
  clear h12 hn HFB
  go_enter Tryz.func113,Tryz.ntmps113
  go_wp2_with(go_at_call 64;(with_reducible refine(HJ _ (Ext.refl _)).mono ?_);rintro e w1 ⟨rfl,hx1⟩;have HX1:=hid hx1;clear hx1)
  go_ret2
  exact⟨by rw[HT.out];rfl,HX1.out⟩
 ·have h12':decide (12<(n:Int))=false:=by rw[decide_eq_false_iff_not];omega
  by_cases h1k:1000<m.length
  have h1k':1000<(m.length:Int):=by omega
  have HT:Hid (fitB l=([],4)):=by show _=_;rw[HFB.out,if_pos (.inr h1k)]
  rotate_left
  have h1k':decide (1000<(m.length:Int))=false:=by rw[decide_eq_false_iff_not];omega
  have HT:Hid (fitB l=(m,0)):=by show _=_;rw[HFB.out,if_neg (fun h=>h.elim h12 h1k)]
  rotate_left
  all_goals
   clear h12 hn h1k HFB
   go_enter Tryz.func113,Tryz.ntmps113
   go_wp2_with(go_at_call 64;(with_reducible refine(HJ _ (Ext.refl _)).mono ?_);rintro e w1 ⟨rfl,hx1⟩;have HX1:=hid hx1;clear hx1)
   go_ret2
   exact⟨by rw[HT.out];rfl,HX1.out⟩
def zbL(w:World)(s:List UInt8)(e:Ending)(w':World):Prop:=
 ∃A n c,e=.returned (.tuple #[.slice A n c,.int .i64 (zaJ (zak s))])∧Row Elem.str (fun b=>w.heap.size≤b) w' A n c (strs (okL (zak s)))∧Ext w w'
theorem zhN(p:List Ava)(h:∀a∈p,a.type.length≤17):∀a∈za8 p,a.type.length≤4000000:=by
 intro a ha
 unfold za8 at ha
 obtain⟨b,hb,rfl⟩:=List.mem_map.1 ha
 have:=h b hb
 show b.type.length≤_
 omega
theorem zd5{p:List Ava}(h:zan p=true):∀a∈p,a.type.length≤17:=fun a ha=>(zdJ (zcW h a ha)).1
def TextsOwn(w:World)(s:List UInt8)(e:Ending)(w':World):Prop:=∃v,e=.returned (.tuple #[v,.int .i64 (zaJ (zak s))])∧GrowS w w' v (strs (okL (zak s)))
theorem zhM(s:ByteArray)(w:World)(hG:Gl w):Calls Tryz.prog 63 #[.string s] w (TextsOwn w (bys s)):=by
 have HG:=hid hG
 have HPR:∀w,Gl w→Calls Tryz.prog 110 #[.string s] w (zmj w (bys s)):=fun w hG=>zg7 s w hG
 unfold zmj at HPR
 have HPB:=hid (zdX (bys s))
 have HPF:Hid (∀l,za6 (bys s)=.ok l→(∀p∈l,zan p=true)∧l.length≤12):=fun l h=>⟨zeb h,zhA h⟩
 clear hG
 cases hp:za6 (bys s) with
 |error er=>
  have HF:Hid (zak (bys s)=.error er):=by show _=_;rw[HPB.out,hp]
  have hne:(zaJ (α:=List (List Ava)) (.error er) != 0)=true:=by cases er<;>rfl
  have HC:Hid (zaJ (α:=List (List Ava)) (.error er)=zaJ (α:=List (List UInt8)) (.error er)):=by cases er<;>rfl
  rw[hp] at HPR
  generalize zaJ (α:=List (List Ava)) (.error er)=cd at*
  clear hp HPB HPF
  go_enter Tryz.func63,Tryz.ntmps63
  go_wp2_with(go_at_call 110;(with_reducible refine(HPR _ (HG.out.ext (Ext.refl _))).mono ?_);rintro e w1 ⟨A1,n1,c1,rfl,-,hx1⟩;have HX1:=hid hx1;clear hx1)
  go_ret2
  exact⟨.slice none 0 0,by rw[HF.out,←HC.out];rfl,by rw[HF.out];exact GrowS.nil (HX1.out.trans (Ext.alloc _ _))⟩
 |ok l=>
  have HF:Hid (zak (bys s)=if 1000<(zaY (l.map zcc)).length then .error .long else .ok (l.map zcc)):=by show _=_;rw[HPB.out,hp]
  have HFL:=hid (HPF.out l hp)
  rw[hp] at HPR
  simp only[okL,zaJ] at HPR
  clear hp HPB HPF
  go_enter Tryz.func63,Tryz.ntmps63
  go_wp2_with(go_at_call 110;(with_reducible refine(HPR _ (HG.out.ext (Ext.refl _))).mono ?_);rintro e w1 ⟨A1,n1,c1,rfl,hr1,hx1⟩;have HX1:=hid hx1;have HR1:=hid hr1;clear hx1 hr1)
  have HLN:=hid HR1.out.len
  have hl12:n1≤12:=by rw[HR1.out.len];exact HFL.out.2
  go_loopw [6,26] (fun v i wr=>∃j:Nat,j≤n1∧i=.int .i64 j∧Hid (GrowS w1 wr v (strs ((l.take j).map zcc)))) (fun _ i _=>n1-(intOf i).toNat)
  case atStart=>exact⟨0,by omega,rfl,GrowS.nil (Ext.alloc _ _)⟩
  case round=>
   obtain⟨j,hj,rfl,HGR⟩:=hrel
   by_cases hlt:j<n1
   ·have hlt':(j:Int)<(n1:Int):=by omega
    obtain⟨b,o,vv,p,rfl,hp,-,⟨A2,n2,c2,rfl,hr2⟩,q2⟩:=(HR1.out.ext HGR.out.ext).at_ hlt
    have e2:=q2 0 _ rfl
    simp only[Elem.slc,Nat.add_zero,Nat.mul_one] at e2
    have HR2:=hid hr2
    have hfp:=HFL.out.1 p (List.mem_of_getElem? hp)
    have HTY:=hid (zd5 hfp)
    have HNP:∀w',Ext wr w'→Calls Tryz.prog 111 #[.slice A2 n2 c2] w' (ziq w' p):=fun w' hx=>znA (HG.out.ext (HX1.out.trans (HGR.out.ext.trans hx))) (HR2.out.ext hx) (fun a ha=>by have:=HTY.out a ha;omega)
    unfold ziq at HNP
    rw[hfp] at HNP
    simp only[eq_self,if_true] at HNP
    have HST:Hid (strs ((l.take (j+1)).map zcc)=strs ((l.take j).map zcc)++[str (zcc p)]):=by show _=_;rw[List.take_add_one,hp];simp
    have HTL:Hid (((l.take j).map zcc).length≤12):=by show _≤_;rw[List.length_map];have:=List.length_take_le j l;omega
    clear hp hr2 q2 hfp
    go_wp2_with (first
     |(go_at_call 111;(with_reducible refine(HNP _ (Ext.refl _)).mono ?_);rintro e w3 ⟨A3,n3,c3,rfl,hr3,hx3⟩;have HR3:=hid hr3;have HX3:=hid hx3;clear hr3 hx3)
     |(go_at_call 112;(with_reducible refine(zoo (HG.out.ext (HX1.out.trans (HGR.out.ext.trans HX3.out))) HR3.out (zhN p HTY.out)).mono ?_);rintro e w4 ⟨rfl,hx4⟩;have HG4:=hid ((HGR.out.later HX3.out).later hx4);clear hx4)
     | (at_builtin;refine zct rfl _ _ rfl _ _ rfl HG4.out rfl (by have:=HTL.out;rw [List.length_map];omega) ?_;intro v' w5 hg5;have HG5:=hid hg5;clear hg5))
    refine⟨⟨j+1,by omega,by go_num,?_⟩,by simp[intOf];omega⟩
    rw[HST.out]
    exact HG5
   ·obtain rfl:j=n1:=by omega
    have HTA:Hid (l.take j=l):=by show _=_;rw[List.take_of_length_le (Nat.le_of_eq HLN.out.symm)]
    rw[HTA.out] at HGR
    obtain⟨A2,c2,rfl,hr2⟩:=HGR.out.row
    rw[List.length_map] at hr2
    have HR2:=hid hr2
    have HLT:Hid (¬12<(l.map zcc).length):=by show ¬_;rw[List.length_map];have:=HFL.out.2;omega
    have HFT:∀w',Ext wr w'→Calls Tryz.prog 113 #[.slice A2 (l.map zcc).length c2] w' fun e w''=>e=.returned (.tuple #[.string (str (fitB (l.map zcc)).1),.int .i64 (fitB (l.map zcc)).2])∧Ext w' w'':=fun w' hx=>
     zsa (HR2.out.ext hx) (by rw[List.length_map];have:=HFL.out.2;omega) (by have:=zjG l HFL.out.2;omega)
    have HFB:Hid (fitB (l.map zcc)=if 12<(l.map zcc).length∨1000<(zaY (l.map zcc)).length then([],4) else(zaY (l.map zcc),0)):=rfl
    clear hr2
    generalize l.map zcc=tx at*
    by_cases h1k:1000<(zaY tx).length
    ·have HE:Hid (zak (bys s)=.error .long):=by show _=_;rw[HF.out,if_pos h1k]
     rw[if_pos (.inr h1k)] at HFB
     rw[HFB.out] at HFT
     clear h1k HFB
     go_wp2_with(go_at_call 113;(with_reducible refine(HFT _ (Ext.refl _)).mono ?_);rintro e w3 ⟨rfl,hx3⟩;have HX3:=hid hx3;clear hx3)
     go_ret2
     exact⟨.slice none 0 0,by rw[HE.out];rfl,by rw[HE.out];exact GrowS.nil (HX1.out.trans (HGR.out.ext.trans HX3.out))⟩
    ·have HE:Hid (zak (bys s)=.ok tx):=by show _=_;rw[HF.out,if_neg h1k]
     rw[if_neg (fun h=>h.elim HLT.out h1k)] at HFB
     rw[HFB.out] at HFT
     clear h1k HFB
     go_wp2_with(go_at_call 113;(with_reducible refine(HFT _ (Ext.refl _)).mono ?_);rintro e w3 ⟨rfl,hx3⟩;have HX3:=hid hx3;clear hx3)
     go_ret2
     refine⟨_,by rw[HE.out];rfl,?_⟩
     rw[HE.out]
     have hz:=(HGR.out.later HX3.out).base HX1.out
     rw[show(strs tx).length=tx.length from List.length_map ..] at hz
     exact hz
theorem TextsOwn.says{w:World}{s:List UInt8}{e:Ending}{w':World}(h:TextsOwn w s e w'):zbL w s e w':=by
 obtain⟨v,h1,h2⟩:=h
 obtain⟨A,c,rfl,h3⟩:=h2.row
 exact⟨A,_,c,h1,h3,h2.ext⟩
theorem zeh(s:ByteArray)(w:World)(hG:Gl w):Calls Tryz.prog 63 #[.string s] w (zbL w (bys s)):=
 (zhM s w hG).mono fun _ _ h=>h.says
def za3(s:List UInt8):List UInt8:=zaY (okL (zak s))
def zbD(w:World)(s:List UInt8)(e:Ending)(w':World):Prop:=e=.returned (.tuple #[.string (str (za3 s)),.int .i64 (zaJ (zak s))])∧Ext w w'
theorem zcU(s:List UInt8):(okL (zak s)).length≤12∧(zaY (okL (zak s))).length≤1000:=by
 rw[zdX]
 cases hp:za6 s with
 |error e=>simp[okL,zaY]
 |ok l=>
  have h:=zhA hp
  simp only
  split
  ·simp[okL,zaY]
  ·simp only[okL]
   rw[List.length_map]
   omega
theorem zc7(s:ByteArray)(w:World)(hG:Gl w):Calls Tryz.prog 73 #[.string s] w (zbD w (bys s)):=by
 have HPA:=zeh s w hG
 unfold zbL at HPA
 have HN:Hid (za3 (bys s)=zaY (okL (zak (bys s)))):=rfl
 have HSM:=hid (zcU (bys s))
 have HCD:Hid (zbD w (bys s)=fun e w'=>e=.returned (.tuple #[.string (str (za3 (bys s))),.int .i64 (zaJ (zak (bys s)))])∧Ext w w'):=rfl
 generalize okL (zak (bys s))=l at*
 generalize zaJ (zak (bys s))=cd at*
 go_enter Tryz.func73,Tryz.ntmps73
 go_wp2_with (first
  |(go_at_call 63;(with_reducible refine HPA.mono ?_);rintro e w1 ⟨A1,n1,c1,rfl,hr1,hx1⟩;have HX1:=hid hx1;have HJ:=zet (strs l) ⟨#[44]⟩ hr1 (by rw[List.length_map];have:=HSM.out.1;omega) (by rw[zcX];show(Lib.join l [44]).length≤_;rw[zha];have:=HSM.out.2;omega);rw[zc5,show bys ⟨#[44]⟩=[44] from rfl,zha,←HN.out] at HJ;clear hx1 hr1)
  | (go_at_call 64;(with_reducible refine HJ.mono ?_);rintro e w2 ⟨rfl,hx2⟩;have HX2:=hid hx2;clear hx2))
 go_ret2
 rw[HCD.out]
 exact⟨rfl,HX1.out.trans HX2.out⟩
def zlv:List (List UInt8)→List UInt8
 |[]=>[]
 |x::t=>44::(x++zlv t)
theorem zel:∀(x:List UInt8) (t:List (List UInt8)),zaY (x::t)=x++zlv t
 |x,[]=>by simp[zaY,zlv]
 |x,y::t=>by
  have h:=zel y t
  rw[zaY,h,zlv]
def zhw(j:Nat)(l:List (List UInt8)):List UInt8:=if j=0 then zaY l else zlv l
theorem znE(x:List UInt8)(t:List (List UInt8)):zhw 0 (x::t)=x++zhw 1 t:=by unfold zhw;rw[if_pos rfl,if_neg (by decide),zel]
theorem znu{j:Nat}(h:¬j=0)(x:List UInt8)(t:List (List UInt8)):zhw j (x::t)=[44]++x++zhw (j+1) t:=by unfold zhw;rw[if_neg h,if_neg (by omega),zlv];simp
theorem zns{S:Nat→Prop}{A:Option Addr}{n c:Nat}{l:List (List UInt8)}{w:World}(h:Row Elem.str S w A n c (strs l))(hj:(zaY l).length≤1000000000) :
 Calls Tryz.prog 95 #[.slice A n c] w fun e w'=>e=.returned (.string (str (zaY l)))∧Ext w w':=by
 have HR:=hid h
 have HLN:Hid (n=l.length):=by show _=_;rw[h.len,List.length_map]
 have HJL:=hid hj
 have hn:n≤9223372036854775807:=by have:=h.cap;have:=h.most;simp only[maxLen] at this;omega
 clear h hj
 go_enter Tryz.func95,Tryz.ntmps95
 go_wp2
 go_loop [3,7] (fun v i=>∃(j:Nat) (acc:List UInt8),j≤n∧i=.int .i64 j∧v=.string (str acc)∧Hid (acc++zhw j (l.drop j)=zaY l)) (fun _ i=>n-(intOf i).toNat)
 case atStart=>exact⟨0,[],by omega,rfl,rfl,rfl⟩
 case round=>
  obtain⟨j,acc,hj,rfl,rfl,HP⟩:=hrel
  by_cases hlt:j<n
  ·have hlt':(j:Int)<(n:Int):=by omega
   obtain⟨b,o,x,rfl,hx,e1⟩:=zfh HR.out hlt
   have hd:Hid (l.drop j=x::l.drop (j+1)):=by
    show _=_
    obtain⟨h1,h2⟩:=List.getElem?_eq_some_iff.1 hx
    rw[List.drop_eq_getElem_cons h1,h2]
   clear hx
   by_cases hj0:j=0
   ·have tj:decide (0<j)=false:=by rw[decide_eq_false_iff_not];omega
    have HP2:acc++x++zhw (j+1) (l.drop (j+1))=zaY l:=by rw[←HP.out,hd.out,hj0,znE];simp
    have hln:=congrArg List.length HP2
    simp only[List.length_append] at hln
    have z1:¬9223372036854775807<acc.length+x.length:=by have:=HJL.out;omega
    have hz:=zbh acc x
    have HP3:=hid HP2
    clear hj0 HP2 hln
    go_wp2
    exact⟨⟨j+1,acc++x,by omega,by go_num,rfl,HP3⟩,by simp[intOf];omega⟩
   ·have tj:decide (0<j)=true:=by rw[decide_eq_true_eq];omega
    have HP2:(acc++[44])++x++zhw (j+1) (l.drop (j+1))=zaY l:=by rw[←HP.out,hd.out,znu hj0];simp
    have hln:=congrArg List.length HP2
    simp only[List.length_append,List.length_cons,List.length_nil] at hln
    have z0:¬9223372036854775807<acc.length+1:=by have:=HJL.out;omega
    obtain⟨ac,hac⟩:∃ac,ac=acc++[44]:=⟨_,rfl⟩
    have hz0:(str acc++str [44])=str ac:=by rw[hac];exact zbh _ _
    have z1:¬9223372036854775807<ac.length+x.length:=by have:=HJL.out;rw[hac,List.length_append,List.length_cons,List.length_nil];omega
    have hz:=zbh ac x
    rw[←hac] at HP2
    have HP3:=hid HP2
    clear hj0 HP2 hln hac
    go_wp2
    exact⟨⟨j+1,ac++x,by omega,by go_num,rfl,HP3⟩,by simp[intOf];omega⟩
  ·obtain rfl:j=n:=by omega
   have HQ:Hid (zaY l=acc):=by
    show _=_
    rw[←HP.out,List.drop_of_length_le (Nat.le_of_eq HLN.out.symm)]
    have:zhw j []=[]:=by unfold zhw;split<;>rfl
    rw[this,List.append_nil]
   go_wp2
   go_ret
   exact⟨by rw[HQ.out];rfl,Ext.refl _⟩
theorem zmX(s:ByteArray)(w:World)(hG:Gl w):Calls Tryz.prog 45 #[.string s] w (zbL w (bys s)):=by
 have HG:=hid hG
 have HPR:∀w,Gl w→Calls Tryz.prog 92 #[.string s] w (zlp w (bys s)):=fun w hG=>ziQ s w hG
 unfold zlp at HPR
 have HPB:=hid (zdX (bys s))
 have HPF:Hid (∀l,za6 (bys s)=.ok l→(∀p∈l,zan p=true)∧l.length≤12):=fun l h=>⟨zeb h,zhA h⟩
 clear hG
 cases hp:za6 (bys s) with
 |error er=>
  have HF:Hid (zak (bys s)=.error er):=by show _=_;rw[HPB.out,hp]
  have hne:(zaJ (α:=List (List Ava)) (.error er) != 0)=true:=by cases er<;>rfl
  have HC:Hid (zaJ (α:=List (List Ava)) (.error er)=zaJ (α:=List (List UInt8)) (.error er)):=by cases er<;>rfl
  rw[hp] at HPR
  generalize zaJ (α:=List (List Ava)) (.error er)=cd at*
  clear hp HPB HPF
  go_enter Tryz.func45,Tryz.ntmps45
  go_wp2_with(go_at_call 92;(with_reducible refine(HPR _ (HG.out.ext (Ext.refl _))).mono ?_);rintro e w1 ⟨A1,n1,c1,rfl,-,hx1⟩;have HX1:=hid hx1;clear hx1)
  go_ret2
  exact⟨none,0,0,by rw[HF.out,←HC.out];rfl,by rw[HF.out];exact Row.nil _ _ _,HX1.out⟩
 |ok l=>
  have HF:Hid (zak (bys s)=if 1000<(zaY (l.map zcc)).length then .error .long else .ok (l.map zcc)):=by show _=_;rw[HPB.out,hp]
  have HFL:=hid (HPF.out l hp)
  rw[hp] at HPR
  simp only[okL,zaJ] at HPR
  clear hp HPB HPF
  go_enter Tryz.func45,Tryz.ntmps45
  go_wp2_with(go_at_call 92;(with_reducible refine(HPR _ (HG.out.ext (Ext.refl _))).mono ?_);rintro e w1 ⟨A1,n1,c1,rfl,hr1,hx1⟩;have HX1:=hid hx1;have HR1:=hid hr1;clear hx1 hr1)
  have HLN:=hid HR1.out.len
  have hl12:n1≤12:=by rw[HR1.out.len];exact HFL.out.2
  go_loopw [6,22] (fun v i wr=>∃j:Nat,j≤n1∧i=.int .i64 j∧Hid (GrowS w1 wr v (strs ((l.take j).map zcc)))) (fun _ i _=>n1-(intOf i).toNat)
  case atStart=>exact⟨0,by omega,rfl,GrowS.nil (Ext.refl _)⟩
  case round=>
   obtain⟨j,hj,rfl,HGR⟩:=hrel
   by_cases hlt:j<n1
   ·have hlt':(j:Int)<(n1:Int):=by omega
    obtain⟨b,o,vv,p,rfl,hp,-,⟨A2,n2,c2,rfl,hr2⟩,q2⟩:=(HR1.out.ext HGR.out.ext).at_ hlt
    have e2:=q2 0 _ rfl
    simp only[Elem.slc,Nat.add_zero,Nat.mul_one] at e2
    have HR2:=hid hr2
    have hfp:=HFL.out.1 p (List.mem_of_getElem? hp)
    have HTY:=hid (zd5 hfp)
    have HNP:∀w',Ext wr w'→Calls Tryz.prog 93 #[.slice A2 n2 c2] w' (ziq w' p):=fun w' hx=>zlR (HG.out.ext (HX1.out.trans (HGR.out.ext.trans hx))) (HR2.out.ext hx) (fun a ha=>by have:=HTY.out a ha;omega)
    unfold ziq at HNP
    rw[hfp] at HNP
    simp only[eq_self,if_true] at HNP
    have HST:Hid (strs ((l.take (j+1)).map zcc)=strs ((l.take j).map zcc)++[str (zcc p)]):=by show _=_;rw[List.take_add_one,hp];simp
    have HTL:Hid (((l.take j).map zcc).length≤12):=by show _≤_;rw[List.length_map];have:=List.length_take_le j l;omega
    clear hp hr2 q2 hfp
    go_wp2_with (first
     |(go_at_call 93;(with_reducible refine(HNP _ (Ext.refl _)).mono ?_);rintro e w3 ⟨A3,n3,c3,rfl,hr3,hx3⟩;have HR3:=hid hr3;have HX3:=hid hx3;clear hr3 hx3)
     |(go_at_call 94;(with_reducible refine(znm (HG.out.ext (HX1.out.trans (HGR.out.ext.trans HX3.out))) HR3.out (zhN p HTY.out)).mono ?_);rintro e w4 ⟨rfl,hx4⟩;have HG4:=hid ((HGR.out.later HX3.out).later hx4);clear hx4)
     | (at_builtin;refine zct rfl _ _ rfl _ _ rfl HG4.out rfl (by have:=HTL.out;rw [List.length_map];omega) ?_;intro v' w5 hg5;have HG5:=hid hg5;clear hg5))
    refine⟨⟨j+1,by omega,by go_num,?_⟩,by simp[intOf];omega⟩
    rw[HST.out]
    exact HG5
   ·obtain rfl:j=n1:=by omega
    have HTA:Hid (l.take j=l):=by show _=_;rw[List.take_of_length_le (Nat.le_of_eq HLN.out.symm)]
    rw[HTA.out] at HGR
    obtain⟨A2,c2,rfl,hr2⟩:=HGR.out.row
    rw[List.length_map] at hr2
    have HR2:=hid hr2
    have HTL:=hid (zjG l HFL.out.2)
    clear hr2
    generalize l.map zcc=tx at*
    have HFT:∀w',Ext wr w'→Calls Tryz.prog 95 #[.slice A2 tx.length c2] w' fun e w''=>e=.returned (.string (str (zaY tx)))∧Ext w' w'':=fun w' hx=>
     zns (HR2.out.ext hx) (by have:=HTL.out;omega)
    generalize zaY tx=jt at*
    by_cases h1k:1000<jt.length
    ·have h1k':1000<(jt.length:Int):=by omega
     have HE:Hid (zak (bys s)=.error .long):=by show _=_;rw[HF.out,if_pos h1k]
     clear h1k
     go_wp2_with(go_at_call 95;(with_reducible refine(HFT _ (Ext.refl _)).mono ?_);rintro e w3 ⟨rfl,hx3⟩;have HX3:=hid hx3;clear hx3)
     go_ret2
     exact⟨none,0,0,by rw[HE.out];rfl,by rw[HE.out];exact Row.nil _ _ _,HX1.out.trans (HGR.out.ext.trans HX3.out)⟩
    ·have h1k':¬1000<(jt.length:Int):=by omega
     have HE:Hid (zak (bys s)=.ok tx):=by show _=_;rw[HF.out,if_neg h1k]
     clear h1k
     go_wp2_with(go_at_call 95;(with_reducible refine(HFT _ (Ext.refl _)).mono ?_);rintro e w3 ⟨rfl,hx3⟩;have HX3:=hid hx3;clear hx3)
     go_ret2
     refine⟨A2,_,c2,by rw[HE.out];rfl,?_,HX1.out.trans (HGR.out.ext.trans HX3.out)⟩
     rw[HE.out]
     exact(HR2.out.ext HX3.out).mono fun b _ hb=>Nat.le_trans (zaz HX1.out) hb
end
section
open Go.RowKit
set_option maxRecDepth 100000
theorem za7{α:Type}{l l':List α}{n:Nat}(h1:n=l.length)(h2:n=l'.length)(h:l.take n=l'.take n):l=l':=by
 rwa[List.take_of_length_le (by omega),List.take_of_length_le (by omega)] at h
theorem CellsIn.drop{S:Nat→Prop}{w:World}{A:Option Addr}{vs:List Value}(h:CellsIn S w A vs)(k:Nat):CellsIn S w (A.map (·.add k)) (vs.drop k):=by
 rcases h with h|⟨b,off,hA,hS,hc⟩
 ·exact .inl (by simp[h])
 ·refine .inr ⟨b,off+k,by simp[hA,zeo],hS,fun j u hj=>?_⟩
  rw[List.getElem?_drop] at hj
  rw[Nat.add_assoc]
  exact hc _ u hj
theorem CellsIn.take{S:Nat→Prop}{w:World}{A:Option Addr}{vs:List Value}(h:CellsIn S w A vs)(k:Nat):CellsIn S w A (vs.take k):=by
 rcases h with h|⟨b,off,hA,hS,hc⟩
 ·exact .inl (by simp[h])
 ·refine .inr ⟨b,off,hA,hS,fun j u hj=>hc j u ?_⟩
  rw[List.getElem?_take] at hj
  split at hj
  ·exact hj
  ·cases hj
theorem zgc{K:Nat}:∀{vss:List (List Value)} (k:Nat),(∀v∈vss,v.length=K)→(vss.drop k).flatten=vss.flatten.drop (k * K)
 |[],k,_=>by simp
 |v::vss,0,_=>by simp
 |v::vss,k+1,h=>by
  have h0:=h v (by simp)
  have hd:v.drop ((k+1) * K)=[]:=List.drop_eq_nil_of_le (by rw[h0,Nat.succ_mul];omega)
  rw[List.drop_succ_cons,zgc k (fun u hu=>h u (by simp[hu])),List.flatten_cons,List.drop_append,hd,h0,List.nil_append]
  congr 1
  rw[Nat.succ_mul];omega
theorem zge{K:Nat}:∀{vss:List (List Value)} (k:Nat),(∀v∈vss,v.length=K)→(vss.take k).flatten=vss.flatten.take (k * K)
 |[],k,_=>by simp
 |v::vss,0,_=>by simp
 |v::vss,k+1,h=>by
  have h0:=h v (by simp)
  have hd:v.take ((k+1) * K)=v:=List.take_of_length_le (by rw[h0,Nat.succ_mul];omega)
  rw[List.take_succ_cons,List.flatten_cons,zge k (fun u hu=>h u (by simp[hu])),List.flatten_cons,List.take_append,hd,h0]
  congr 2
  rw[Nat.succ_mul];omega
section
variable {α:Type}{E:Elem α}{S:Nat→Prop}{w:World}{A:Option Addr}{n c:Nat}{l:List α}
theorem Row.lens{vss:List (List Value)}(h1:n=l.length)(h4:vss.length=n)(h6:∀(i:Nat) v x,vss[i]?=some v→l[i]?=some x→E.R S w v x):∀v∈vss,v.length=E.k:=by
 intro v hv
 obtain⟨j,hj,rfl⟩:=List.mem_iff_getElem.1 hv
 exact E.len (h6 j vss[j] (l[j]'(by omega)) (List.getElem?_eq_getElem hj) (List.getElem?_eq_getElem (by omega)))
theorem Row.tail(h:Row E S w A n c l){k:Nat}(hk:k≤n):Row E S w (cutA A k c E.k) (n-k) (c-k) (l.drop k):=by
 obtain⟨h1,h2,h3,vss,h4,h5,h6⟩:=h
 refine⟨by rw[List.length_drop,h1],by omega,by omega,vss.drop k,by rw[List.length_drop,h4],?_,fun i v x hi hx=>h6 (k+i) v x (by rwa[List.getElem?_drop] at hi) (by rwa[List.getElem?_drop] at hx)⟩
 rw[zgc k (Row.lens h1 h4 h6)]
 unfold cutA
 split
 ·rename_i hc
  refine .inl (List.drop_eq_nil_of_le ?_)
  have:vss.flatten.length=n * E.k:=by
   have e:∀(u:List (List Value)),(∀v∈u,v.length=E.k)→u.flatten.length=u.length * E.k:=by
    intro u
    induction u with
    |nil=>intro _;simp
    |cons v t ih=>intro hh;rw[List.flatten_cons,List.length_append,ih (fun x hx=>hh x (by simp[hx])),hh v (by simp),List.length_cons,Nat.succ_mul];omega
   rw[e vss (Row.lens h1 h4 h6),h4]
  rw[this]
  exact Nat.mul_le_mul_right _ (by omega)
 ·exact h5.drop (k * E.k)
theorem Row.head(h:Row E S w A n c l){k:Nat}(hk:k≤n):Row E S w (cutA A 0 c E.k) k c (l.take k):=by
 obtain⟨h1,h2,h3,vss,h4,h5,h6⟩:=h
 refine⟨by rw[List.length_take];omega,by omega,h3,vss.take k,by rw[List.length_take];omega,?_,fun i v x hi hx=>?_⟩
 ·rw[zge k (Row.lens h1 h4 h6)]
  unfold cutA
  split
  ·rename_i hc
   refine .inl ?_
   have:k=0:=by omega
   subst this
   simp
  ·have:=(h5.drop 0).take (k * E.k)
   simpa using this
 ·rw[List.getElem?_take] at hi hx
  split at hi
  ·rename_i hlt
   rw[if_pos hlt] at hx
   exact h6 i v x hi hx
  ·cases hi
end
theorem zfz:Tryz.prog.underlying 53=some (.slice (Tryz.prog.elem 53)):=by kernel_rfl
theorem zkv(w:World):(sizeOf (Tryz.prog.elem 53)).run Tryz.prog w=.ok 1 w:=by kernel_rfl
theorem zmy(A:Option Addr)(n c l:Nat)(hlk:l≤n) :
 ∀w,(Instr.sliceAt 53 (.slice A n c) (some (.int .i64 (l:Int))) none none).run Tryz.prog w=.ok (.slice (cutA A l c 1) (n-l) (c-l)) w:=fun w=>by
 have h1:(l:Int)≤(n:Int):=by omega
 have:=run_slice_l (P:=Tryz.prog) w 53 A n c zfz .i64 (l:Int) (by omega) h1
 rw[run_sliceAt_slice w 53 _ _ _ _ zfz,this,zkv]
 simp only[sliced,cutA,Result.andThen,Int.toNat_natCast]
theorem zmu(A:Option Addr)(n c k:Nat)(hlk:k≤c) :
 ∀w,(Instr.sliceAt 53 (.slice A n c) none (some (.int .i64 (k:Int))) none).run Tryz.prog w=.ok (.slice (cutA A 0 c 1) k c) w:=fun w=>by
 have h2:(k:Int)≤(c:Int):=by omega
 have:=run_slice_h (P:=Tryz.prog) w 53 A n c zfz .i64 (k:Int) (by omega) h2
 rw[run_sliceAt_slice w 53 _ _ _ _ zfz,this,zkv]
 simp only[sliced,cutA,Result.andThen,Int.toNat_natCast,Nat.sub_zero]
end
section
open Go.RowKit
set_option maxRecDepth 100000
theorem zhC(n s:ByteArray)(w:World)(hG:Gl w)(hn:n.size≤4000000)(h4:(zat (bys n)).2≠4)(h5:(zat (bys n)).2≠5) :
 Calls Tryz.prog 103 #[.string n,.string s] w (zb1 w (bys n) (bys s)):=by
 have HG:=hid hG
 have HT:∀w,Calls Tryz.prog 75 #[.string n] w (zaX w (bys n)):=fun w=>zc3 n w (by simp only[maxLen];omega)
 have HN:∀w,Gl w→Calls Tryz.prog 139 #[.string n,.string s] w (zb1 w (bys n) (bys s)):=fun w hG=>zen n s w hG hn h4
 unfold zaX at HT
 unfold zb1 at HN
 have HND:Hid (zb1 w (bys n) (bys s)=fun e w'=>e=.returned (.tuple #[.string (str (zb0 (bys n) (bys s)).1),.int .i64 (zb0 (bys n) (bys s)).2])∧Ext w w'):=rfl
 have t5:(((zat (bys n)).2:Int) != 5)=true:=by rw[bne_iff_ne];omega
 clear hG h4 h5
 generalize zat (bys n)=p at*
 obtain⟨t,k⟩:=p
 generalize zb0 (bys n) (bys s)=q at*
 obtain⟨q1,q2⟩:=q
 simp only at HT t5 HN
 go_enter Tryz.func103,Tryz.ntmps103
 go_wp2_with (first
  |(go_at_call 75;(with_reducible refine(HT _).mono ?_);rintro e w1 ⟨rfl,hx1⟩;have HX1:=hid hx1;clear hx1)
  | (go_at_call 139;(with_reducible refine (HN _ (HG.out.ext HX1.out)).mono ?_);rintro e w2 ⟨rfl,hx2⟩;have HX2:=hid hx2;clear hx2))
 go_ret2
 rw[HND.out]
 exact⟨rfl,HX1.out.trans HX2.out⟩
def zgw(n m x:List UInt8):Bool:=(zb0 n x).2==0&&decide ((zb0 n x).1=m)
def hasE(n v:List UInt8)(l:List ByteArray):Bool:=(zb0 n v).2==0&&l.any fun x=>zgw n (zb0 n v).1 (bys x)
theorem zeg{α:Type}{p:α→Bool}{l:List α}{j:Nat}{x:α}(h:(l.take j).any p=false)(hx:l[j]?=some x)(hp:p x=false):(l.take (j+1)).any p=false:=by
 rw[List.take_add_one,hx]
 simp only[Option.toList,List.any_append,h,List.any_cons,hp,List.any_nil,Bool.or_self]
theorem zlV{α:Type}{p:α→Bool}{l:List α}{j:Nat}{x:α}(hx:l[j]?=some x)(hp:p x=true):l.any p=true:=List.any_eq_true.2 ⟨x,List.mem_of_getElem? hx,hp⟩
theorem zmr(a:ByteArray):str (bys a)=a:=rfl
theorem zo9(n m x:ByteArray)(g1 g2:Nat)(w:World)(hG:Gl w)(hn:n.size≤4000000)(h4:(zat (bys n)).2≠4)(h5:(zat (bys n)).2≠5)
 (hc1:w.cell? ⟨g1,0,none⟩=some (.string n)) (hc2:w.cell? ⟨g2,0,none⟩=some (.string m)) :
 Calls Tryz.prog 154 #[.string x,.pointer (some ⟨g1,0,none⟩),.pointer (some ⟨g2,0,none⟩)] w fun e w'=>e=.returned (.bool (zgw (bys n) (bys m) (bys x)))∧Ext w w':=by
 have HG:=hid hG
 have HV:∀w,Gl w→Calls Tryz.prog 103 #[.string n,.string x] w (zb1 w (bys n) (bys x)):=fun w hG=>zhC n x w hG hn h4 h5
 unfold zb1 at HV
 have HLD:Hid (zgw (bys n) (bys m) (bys x)=((zb0 (bys n) (bys x)).2==0&&decide ((zb0 (bys n) (bys x)).1=bys m))):=rfl
 have HC2:=hid hc2
 clear hG h4 h5 hn hc2
 generalize zgw (bys n) (bys m) (bys x)=r at*
 generalize zb0 (bys n) (bys x)=q at*
 obtain⟨q1,q2⟩:=q
 simp only at HV HLD
 have k1:(q2==0)=true∨(q2==0)=false:=by cases q2==0<;>simp
 have k2:((str q1).toList==m.toList)=true∧Hid (decide (q1=bys m)=true)∨((str q1).toList==m.toList)=false∧Hid (decide (q1=bys m)=false):=by
  by_cases h:str q1=m
  ·exact .inl ⟨zco h,decide_eq_true (by rw[←h,zao])⟩
  ·exact .inr ⟨zch h,decide_eq_false (fun e=>h (by rw[e,zmr]))⟩
 rcases k1 with k1|k1<;>rcases k2 with⟨k2,HK2⟩|⟨k2,HK2⟩
 all_goals
  rw[k1,HK2.out] at HLD
  generalize str q1=qs at*
  go_enter Tryz.func154,Tryz.ntmps154
  go_wp2_with(go_at_call 103;(with_reducible refine(HV _ HG.out).mono ?_);rintro e w1 ⟨rfl,hx1⟩;have HX1:=hid hx1;have hc3:=zaa HC2.out _ hx1;clear hx1)
  go_ret
  exact⟨by rw[HLD.out];rfl,HX1.out⟩
theorem zjb{S:Nat→Prop}{A:Option Addr}{n c:Nat}{l:List ByteArray}{w:World}(h:Row Elem.str S w A n c l)(nm m:ByteArray)(g1 g2:Nat)(hG:Gl w)(hn:nm.size≤4000000)(h4:(zat (bys nm)).2≠4)(h5:(zat (bys nm)).2≠5)
 (hc1:w.cell? ⟨g1,0,none⟩=some (.string nm)) (hc2:w.cell? ⟨g2,0,none⟩=some (.string m)) :
 Calls Tryz.prog 104 #[.slice A n c,.func (.func 154) #[] #[.pointer (some ⟨g1,0,none⟩),.pointer (some ⟨g2,0,none⟩)]] w fun e w'=>
  ∃r:Int,e=.returned (.int .i64 r)∧decide (0≤r)=l.any (fun x=>zgw (bys nm) (bys m) (bys x))∧Ext w w':=by
 have hl:=hid h.len
 have hnl:n≤9223372036854775807:=by have:=h.cap;have:=h.most;simp only[maxLen] at this;omega
 have HC:∀x wr,Ext w wr→Calls Tryz.prog 154 #[.string x,.pointer (some ⟨g1,0,none⟩),.pointer (some ⟨g2,0,none⟩)] wr fun e w'=>e=.returned (.bool (zgw (bys nm) (bys m) (bys x)))∧Ext wr w':=
  fun x wr hx=>zo9 nm m x g1 g2 wr (hG.ext hx) hn h4 h5 (zaa hc1 _ hx) (zaa hc2 _ hx)
 clear hG h4 h5 hn hc1 hc2
 generalize hP:(fun x:ByteArray=>zgw (bys nm) (bys m) (bys x))=P at*
 have HC2:∀x wr,Ext w wr→Calls Tryz.prog 154 #[.string x,.pointer (some ⟨g1,0,none⟩),.pointer (some ⟨g2,0,none⟩)] wr fun e w'=>e=.returned (.bool (P x))∧Ext wr w':=fun x wr hx=>by rw[←hP];exact HC x wr hx
 clear hP HC
 go_enter Tryz.func104,Tryz.ntmps104
 go_wp2
 go_loopw [8] (fun i wr=>∃j:Nat,j≤n∧i=.int .i64 j∧Hid ((l.take j).any P=false)∧Hid (Ext w wr)) (fun i _=>n-(intOf i).toNat)
 case atStart=>exact⟨0,by omega,rfl,by simp[Hid],Ext.refl w⟩
 case round=>
  obtain⟨j,hj,rfl,Htk,hx⟩:=hrel
  by_cases hlt:j<n
  ·obtain⟨b1,o1,rfl,c1⟩:=(h.ext hx.out).str_cell (by omega)
   have e1:=c1 j hlt
   clear c1
   have g1:l[j]?=some (l[j]?.getD ByteArray.empty):=by have:=hl.out;rw[List.getElem?_eq_getElem (by omega)];simp
   have Hg:=hid g1
   clear g1
   generalize l[j]?.getD ByteArray.empty=x1 at*
   cases hp:P x1
   ·have Hp:=hid hp
    clear hp
    go_wp2_with(go_at_call 154;(with_reducible refine(HC2 _ _ hx.out).mono ?_);rintro e w1 ⟨he,hx1⟩;rw[Hp.out] at he;subst he;have HX1:=hid hx1;clear hx1)
    exact⟨⟨j+1,by omega,by go_num,zeg Htk.out Hg.out Hp.out,hx.out.trans HX1.out⟩,by simp[intOf];omega⟩
   ·have Hp:=hid hp
    clear hp
    go_wp2_with(go_at_call 154;(with_reducible refine(HC2 _ _ hx.out).mono ?_);rintro e w1 ⟨he,hx1⟩;rw[Hp.out] at he;subst he;have HX1:=hid hx1;clear hx1)
    go_ret
    exact⟨_,rfl,by rw[zlV Hg.out Hp.out];exact decide_eq_true (by omega),hx.out.trans HX1.out⟩
  ·obtain rfl:j=n:=by omega
   go_wp2
   go_ret
   have h9:=Htk.out
   rw[List.take_of_length_le (Nat.le_of_eq hl.out.symm)] at h9
   exact⟨_,rfl,by rw[h9];rfl,hx.out⟩
theorem zqp{S:Nat→Prop}{A:Option Addr}{n c:Nat}{l:List ByteArray}{w:World}(h:Row Elem.str S w A n c l)(nm v:ByteArray)(hG:Gl w)(hn:nm.size≤4000000)(h4:(zat (bys nm)).2≠4)(h5:(zat (bys nm)).2≠5) :
 Calls Tryz.prog 123 #[.string nm,.slice A n c,.string v] w fun e w'=>∃r:Int,e=.returned (.int .i64 r)∧decide (0≤r)=hasE (bys nm) (bys v) l∧Ext w w':=by
 have HG:=hid hG
 have HR:=hid h
 have HV:∀w,Gl w→Calls Tryz.prog 103 #[.string nm,.string v] w (zb1 w (bys nm) (bys v)):=fun w hG=>zhC nm v w hG hn h4 h5
 unfold zb1 at HV
 have HI:∀(m:ByteArray) g1 g2 w1,Ext w w1→w1.cell? ⟨g1,0,none⟩=some (.string nm)→w1.cell? ⟨g2,0,none⟩=some (.string m) →
  Calls Tryz.prog 104 #[.slice A n c,.func (.func 154) #[] #[.pointer (some ⟨g1,0,none⟩),.pointer (some ⟨g2,0,none⟩)]] w1 fun e w'=>
  ∃r:Int,e=.returned (.int .i64 r)∧decide (0≤r)=l.any (fun x=>zgw (bys nm) (bys m) (bys x))∧Ext w1 w':=fun m g1 g2 w1 hx a b=>zjb (h.ext hx) nm m g1 g2 (hG.ext hx) hn h4 h5 a b
 have HHD:Hid (hasE (bys nm) (bys v) l=((zb0 (bys nm) (bys v)).2==0&&l.any fun x=>zgw (bys nm) (zb0 (bys nm) (bys v)).1 (bys x))):=rfl
 have hmf:∀(fn:Fn) (first cap:Array Value) (w:World),(Instr.makeFunc fn first cap).run Tryz.prog w=.ok (.func fn first cap) w:=fun _ _ _ _=>rfl
 clear hG h hn h4 h5
 generalize hasE (bys nm) (bys v) l=r at*
 generalize zb0 (bys nm) (bys v)=q at*
 obtain⟨q1,q2⟩:=q
 simp only at HV HHD
 have HQ:Hid ((l.any fun x=>zgw (bys nm) q1 (bys x))=l.any fun x=>zgw (bys nm) (bys (str q1)) (bys x)):=by show _=_;rw[zao]
 rw[HQ.out] at HHD
 clear HQ
 generalize str q1=qs at*
 by_cases k1:q2=0
 ·subst k1
  have HF:Hid (r=l.any fun x=>zgw (bys nm) (bys qs) (bys x)):=by show _=_;rw[HHD.out];rfl
  clear HHD
  go_enter Tryz.func123,Tryz.ntmps123
  go_wp2_with (first
   |(go_at_call 103;(with_reducible refine(HV _ (HG.out.ext (Ext.alloc _ _))).mono ?_);rintro e w1 ⟨rfl,hx1⟩;have HX1:=hid hx1;clear hx1;have HXA:=hid ((Ext.trans (Ext.alloc _ _) HX1.out).trans (Ext.alloc w1 (.cells #[.string qs] 9)));have HCA:=hid ((((Bx.make (Ext.refl w) #[.string nm] 9).later HX1.out).later (Ext.alloc w1 (.cells #[.string qs] 9))).cell (i:=0) rfl);have HCB:=hid ((Bx.make (Ext.refl w1) #[.string qs] 9).cell (i:=0) rfl))
   | (go_at_call 104;(with_reducible refine (HI qs _ _ _ HXA.out HCA.out HCB.out).mono ?_);rintro e w2 ⟨r1,rfl,hr,hx2⟩;have HX2:=hid hx2;have HRR:=hid hr;clear hx2 hr))
  go_ret
  exact⟨_,rfl,by rw[HF.out];exact HRR.out,((Ext.trans (Ext.alloc _ _) HX1.out).trans (Ext.alloc _ _)).trans HX2.out⟩
 ·have k2:(q2 != 0)=true:=by rw[bne_iff_ne];exact k1
  have HF:Hid (r=false):=by show _=_;rw[HHD.out,show(q2==0)=false from beq_eq_false_iff_ne.2 k1];rfl
  clear HHD k1
  go_enter Tryz.func123,Tryz.ntmps123
  go_wp2_with (first
   | (go_at_call 103;(with_reducible refine (HV _ (HG.out.ext (Ext.alloc _ _))).mono ?_);rintro e w1 ⟨rfl,hx1⟩;have HX1:=hid hx1;clear hx1))
  go_ret
  exact⟨-1,rfl,by rw[HF.out];rfl,(Ext.trans (Ext.alloc _ _) HX1.out).trans (Ext.alloc _ _)⟩
theorem zgf{S:Nat→Prop}{A:Option Addr}{n c:Nat}{l:List ByteArray}{w:World}(h:Row Elem.str S w A n c l)(hn:l.length≤8796093022208) :
 Calls Tryz.prog 81 #[.slice A n c] w fun e w'=>∃A' n' c',e=.returned (.slice A' n' c')∧Row Elem.str (fun b=>w.heap.size≤b) w' A' n' c' l∧Ext w w':=by
 have hl:=h.len
 rcases A with _|a
 ·have hx:l=[]:=by
   rcases Nat.eq_zero_or_pos n with h0|h0
   ·exact h.nil_iff.1 h0
   ·obtain⟨b,o,e,_⟩:=h.str_cell h0;cases e
  subst hx
  have hz:=fun W=>Lib.run_eql_slice_nil (P:=Tryz.prog) W 53 9 none n c 0 0 Tryz.underlying53
  clear hl h
  go_enter Tryz.func81,Tryz.ntmps81
  go_wp2
  go_ret
  exact⟨_,_,_,rfl,Row.nil _ _ _,Ext.refl w⟩
 ·have hz:=fun W=>Lib.run_eql_slice_nil (P:=Tryz.prog) W 53 9 (some a) n c 0 0 Tryz.underlying53
  have HC:=hid ((h.ext (Ext.alloc w (.cells #[] 9))).str_cells)
  have HG:Hid (GrowS w (w.alloc (.cells #[] 9)) (.slice (some ⟨w.heap.size,0,none⟩) 0 0) []):=⟨zhB w _ (Nat.le_refl _) _ _,Ext.alloc _ _⟩
  have HL:=hid hl
  have HN:Hid (n≤8796093022208):=by show _≤_;omega
  clear hl h hn
  go_enter Tryz.func81,Tryz.ntmps81
  go_wp2_with(at_builtin;refine zhF rfl _ _ rfl _ [] rfl HG.out _ _ _ l rfl HL.out HC.out (by have:=HN.out;simp only[List.length_nil];omega) ?_;intro v' w1 hg1;have HG1:=hid hg1;clear hg1)
  go_ret
  obtain⟨A',c',rfl,hr⟩:=HG1.out.row
  exact⟨A',_,c',rfl,by simpa using hr,HG1.out.ext⟩
def zbv(n:List UInt8)(l:List Att):List ByteArray:=((l.find? fun a=>decide (bys a.type=(zat n).1∧(zat n).1≠[])).map (·.vals)).getD []
def zcJ(w:World)(n:List UInt8)(l:List Att)(e:Ending)(w':World):Prop:=∃A m c,e=.returned (.slice A m c)∧Row Elem.str (fun b=>w.heap.size≤b) w' A m c (zbv n l)∧Ext w w'
theorem zeL{α:Type}{p:α→Bool}{l:List α}{j:Nat}{x:α}(h:(l.take j).find? p=none)(hx:l[j]?=some x)(hp:p x=false):(l.take (j+1)).find? p=none:=by
 rw[List.take_add_one,hx,List.find?_append,h]
 simp[hp]
theorem zr0{α:Type}{p:α→Bool}{l:List α}{j:Nat}{x:α}(h:(l.take j).find? p=none)(hx:l[j]?=some x)(hp:p x=true):l.find? p=some x:=by
 obtain⟨hj,he⟩:=List.getElem?_eq_some_iff.1 hx
 rw[←List.take_append_drop j l,List.find?_append,h,List.drop_eq_getElem_cons hj,he]
 simp[hp]
theorem zez{S:Nat→Prop}{A:Option Addr}{n c:Nat}{l:List Att}{w:World}(h:Row Elem.att S w A n c l)(nm dn:ByteArray)(hn:nm.size≤4000000)(hv:∀a∈l,a.vals.length≤8796093022208) :
 Calls Tryz.prog 78 #[.agg #[.string dn,.slice A n c],.string nm] w (zcJ w (bys nm) l):=by
 have HT:∀w,Calls Tryz.prog 75 #[.string nm] w (zaX w (bys nm)):=fun w=>zc3 nm w (by simp only[maxLen];omega)
 unfold zaX at HT
 have hl:=hid h.len
 have hnl:n≤9223372036854775807:=by have:=h.cap;have:=h.most;simp only[maxLen] at this;omega
 have HV:=hid hv
 have HR:=hid h
 have HD:Hid (zbv (bys nm) l=((l.find? fun a=>decide (bys a.type=(zat (bys nm)).1∧(zat (bys nm)).1≠[])).map (·.vals)).getD []):=rfl
 clear h hv hn
 generalize hP:(fun a:Att=>decide (bys a.type=(zat (bys nm)).1∧(zat (bys nm)).1≠[]))=P at*
 have HP:∀a:Att,Hid (decide (bys a.type=(zat (bys nm)).1∧(zat (bys nm)).1≠[])=P a):=fun a=>by rw[←hP];rfl
 clear hP
 generalize zat (bys nm)=tk at*
 obtain⟨t,k⟩:=tk
 simp only at HT HP
 have HP2:∀a:Att,Hid (decide (a.type=str t∧str t≠⟨#[]⟩)=P a):=fun a=>by
  rw[←(HP a).out]
  show _=_
  rw[Bool.eq_iff_iff,decide_eq_true_eq,decide_eq_true_eq]
  constructor
  ·rintro⟨h1,h2⟩;exact⟨by rw[h1,zao],fun e=>h2 (by(rw[e];try rfl))⟩
  ·rintro⟨h1,h2⟩;exact⟨by(rw[←h1];try rfl),fun e=>h2 (by have:=congrArg bys e;rw[zao] at this;exact this)⟩
 clear HP
 generalize str t=ts at*
 go_enter Tryz.func78,Tryz.ntmps78
 go_wp2_with(go_at_call 75;(with_reducible refine(HT _).mono ?_);rintro e w1 ⟨rfl,hx1⟩;have HX1:=hid (Ext.trans (Ext.alloc _ _) hx1);have cB:=((Bx.make (Ext.refl w) #[.string dn,.slice A n c] 58).later hx1).cell (i:=1) rfl;clear hx1)
 go_loopw [17] (fun i wr=>∃j:Nat,j≤n∧i=.int .i64 j∧Hid ((l.take j).find? P=none)∧Hid (Ext w wr)) (fun i _=>n-(intOf i).toNat)
 case atStart=>exact⟨0,by omega,rfl,by simp[Hid],HX1.out⟩
 case round=>
  obtain⟨j,hj,rfl,Htk,hx⟩:=hrel
  by_cases hlt:j<n
  ·obtain⟨b1,o1,v1,x1,rfl,g1,-,⟨A1,n1,c1,rfl,r1⟩,q1⟩:=(HR.out.ext hx.out).at_ hlt
   have e10:=q1 0 _ rfl
   have e11:=q1 1 _ rfl
   simp only[Elem.att,Nat.add_zero] at e10 e11
   have R1:=hid r1
   clear q1 r1
   have Hg:=hid g1
   have HL1:=hid (HV.out x1 (List.mem_of_getElem? g1))
   have HCL:∀w',Ext wr w'→Calls Tryz.prog 81 #[.slice A1 n1 c1] w' fun e w''=>∃A' n' c',e=.returned (.slice A' n' c')∧Row Elem.str (fun b=>w'.heap.size≤b) w'' A' n' c' x1.vals∧Ext w' w'':=fun w' hx'=>zgf (R1.out.ext hx') HL1.out
   clear g1
   by_cases he:x1.type=ts∧ts≠⟨#[]⟩
   ·have HPT:Hid (P x1=true):=by show _=_;rw[←(HP2 x1).out];exact decide_eq_true he
    have s1:=zco he.1
    have s2:=zfj (s:=ts) (fun h=>he.2 (by rw[zb3 h];rfl))
    have HF:Hid (zbv (bys nm) l=x1.vals):=by show _=_;rw[HD.out,zr0 Htk.out Hg.out HPT.out];rfl
    clear he
    go_wp2_with(go_at_call 81;(with_reducible refine(HCL _ (Ext.alloc _ _)).mono ?_);rintro e w2 ⟨A2,n2,c2,rfl,hr2,hx2⟩;have HX2:=hid ((hx.out.trans (Ext.alloc _ _)).trans hx2);have HR2:=hid (hr2.mono (T:=fun b=>w.heap.size≤b) (fun b _ hb=>by have:=(hx.out.trans (Ext.alloc wr (.cells #[.string x1.type,.slice A1 n1 c1] 55))).size;omega));clear hr2 hx2)
    go_ret
    exact⟨_,_,_,rfl,by rw[HF.out];exact HR2.out,HX2.out⟩
   ·have HPT:Hid (P x1=false):=by show _=_;rw[←(HP2 x1).out];exact decide_eq_false he
    by_cases h1:x1.type=ts
    have h2:ts.size=0:=Decidable.byContradiction fun h=>he ⟨h1,fun e=>h (by rw[e];rfl)⟩
    have s1:x1.type.toList=[]:=by rw[h1];exact zdf h2
    have s2:=zdf h2
    clear he h1 h2
    rotate_left
    have s1:=zch h1
    clear he h1
    rotate_left
    all_goals
     go_wp2
     exact⟨⟨j+1,by omega,by go_num,zeL Htk.out Hg.out HPT.out,hx.out.trans (Ext.alloc _ _)⟩,by simp[intOf];omega⟩
  ·obtain rfl:j=n:=by omega
   have h9:=Htk.out
   rw[List.take_of_length_le (Nat.le_of_eq hl.out.symm)] at h9
   have HF:Hid (zbv (bys nm) l=[]):=by show _=_;rw[HD.out,h9];rfl
   clear h9
   go_wp2
   go_ret
   exact⟨none,0,0,rfl,by rw[HF.out];exact Row.nil _ _ _,hx.out⟩
theorem zrF{S:Nat→Prop}{A:Option Addr}{n c:Nat}{l:List Att}{w:World}(h:Row Elem.att S w A n c l)(nm dn v:ByteArray)(hG:Gl w)(hn:nm.size≤4000000)(h4:(zat (bys nm)).2≠4)(h5:(zat (bys nm)).2≠5)(hv:∀a∈l,a.vals.length≤8796093022208) :
 Calls Tryz.prog 102 #[.agg #[.string dn,.slice A n c],.string nm,.string v] w fun e w'=>e=.returned (.bool (hasE (bys nm) (bys v) (zbv (bys nm) l)))∧Ext w w':=by
 have HV:∀w',Ext w w'→Calls Tryz.prog 78 #[.agg #[.string dn,.slice A n c],.string nm] w' (zcJ w' (bys nm) l):=fun w' hx=>zez (h.ext hx) nm dn hn hv
 unfold zcJ at HV
 have HF:∀(T:Nat→Prop) B m d w',Ext w w'→Row Elem.str T w' B m d (zbv (bys nm) l)→Calls Tryz.prog 123 #[.string nm,.slice B m d,.string v] w' fun e w''=>∃r:Int,e=.returned (.int .i64 r)∧decide (0≤r)=hasE (bys nm) (bys v) (zbv (bys nm) l)∧Ext w' w'':=
  fun T B m d w' hx hr=>zqp hr nm v (hG.ext hx) hn h4 h5
 clear hG hn h4 h5 hv h
 generalize hasE (bys nm) (bys v) (zbv (bys nm) l)=r at*
 generalize zbv (bys nm) l=q at*
 go_enter Tryz.func102,Tryz.ntmps102
 go_wp2_with (first
  |(go_at_call 78;(with_reducible refine(HV _ (Ext.alloc _ _)).mono ?_);rintro e w1 ⟨A1,n1,c1,rfl,hr1,hx1⟩;have HR1:=hid hr1;have HX1:=hid (Ext.trans (Ext.alloc _ _) hx1);clear hr1 hx1)
  | (go_at_call 123;(with_reducible refine (HF _ _ _ _ _ HX1.out HR1.out).mono ?_);rintro e w2 ⟨r1,rfl,hr,hx2⟩;have HRR:=hid hr;have HX2:=hid hx2;clear hr hx2))
 go_ret
 exact⟨by rw[←HRR.out];rfl,HX1.out.trans HX2.out⟩
end
end Go.Proofs.YtkjbokhnpphimaaGreatDoor
