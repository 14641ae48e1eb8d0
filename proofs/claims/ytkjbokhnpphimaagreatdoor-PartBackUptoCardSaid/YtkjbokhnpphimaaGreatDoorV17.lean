/- Lemmas of the walk. -/
import Derived.Laws.Cover3
import Derived.Laws.FloatArith
import Derived.Test.YtkjbokhnpphimaaGreatDoorV14
import Derived.Test.YtkjbokhnpphimaaGreatDoorV16
set_option maxHeartbeats 40000000
set_option linter.unusedVariables false
set_option linter.unusedSimpArgs false
namespace Go.Proofs.YtkjbokhnpphimaaGreatDoor
section
set_option maxRecDepth 10000
def zax(n:Int):Nat:=FloatKind.nearest .f64 n
theorem zhH{m:Nat}(hm:0<m)(h:m<9007199254740992):m.log2≤52:=by
 have:m.log2<53:=(Nat.log2_lt (by omega)).2 (by simpa using h)
 omega
def zd7(m:Nat):Nat:=m * 2 ^ (52-m.log2)
theorem zdz{m:Nat}(hm:0<m)(h:m<9007199254740992):4503599627370496≤zd7 m∧zd7 m<9007199254740992:=by
 have hl:=zhH hm h
 have h1:2 ^ m.log2≤m:=Nat.log2_self_le (by omega)
 have h2:m<2 ^ (m.log2+1):=Nat.lt_log2_self
 unfold zd7
 constructor
 ·calc 4503599627370496=2 ^ m.log2 * 2 ^ (52-m.log2):=by rw[←Nat.pow_add,show m.log2+(52-m.log2)=52 by omega]
   _≤m * 2 ^ (52-m.log2):=Nat.mul_le_mul_right _ h1
 ·calc m * 2 ^ (52-m.log2)<2 ^ (m.log2+1) * 2 ^ (52-m.log2):=Nat.mul_lt_mul_of_pos_right h2 (Nat.pow_pos (by decide))
   _=9007199254740992:=by rw[←Nat.pow_add,show m.log2+1+(52-m.log2)=53 by omega]
theorem zkh(neg:Bool){m:Nat}(hm:0<m)(h:m<9007199254740992) :
 Ieee.double.nearest neg m 0=Ieee.double.word neg ((m.log2+1022) * 4503599627370496+zd7 m):=by
 have hl:=zhH hm h
 obtain⟨b1,b2⟩:=zdz hm h
 have hp:Ieee.double.leastPlace = -1074:=by decide
 have hf:Ieee.double.fractionBits=52:=rfl
 have hb:Ieee.double.binade=4503599627370496:=by decide
 have hi:Ieee.double.infRung=9218868437227405312:=by decide
 unfold Ieee.Format.nearest
 rw[if_neg (by omega)]
 simp only[hp,hf,hb,hi]
 have hmax:max ((0:Int)+(m.log2:Int)-(52:Nat)) (-1074)=(m.log2:Int)-52:=by omega
 rw[hmax]
 have e1:((0:Int)-((m.log2:Int)-52)).toNat=52-m.log2:=by omega
 have e2:((m.log2:Int)-52-0).toNat=0:=by omega
 have e3:((m.log2:Int)-52 - -1074).toNat=m.log2+1022:=by omega
 rw[e1,e2,e3]
 have hc:Ieee.Toward.even.cut neg (m <<< (52-m.log2)) 0=zd7 m:=by
  unfold Ieee.Toward.cut zd7
  simp[Nat.shiftLeft_eq,Nat.mod_one]
 rw[hc,Nat.min_eq_left (by omega)]
theorem zoy(neg:Bool){L K:Nat}(hl:L≤52)(h1:4503599627370496≤K)(h2:K<9007199254740992) :
 Ieee.double.read (Ieee.double.word neg ((L+1022) * 4503599627370496+K))=.number neg K ((L:Int)-52):=by
 have hp:Ieee.double.leastPlace = -1074:=by decide
 have hb:Ieee.double.binade=4503599627370496:=by decide
 have hi:Ieee.double.infRung=9218868437227405312:=by decide
 have hs:Ieee.double.signWeight=9223372036854775808:=by decide
 have hw:Ieee.double.word neg ((L+1022) * 4503599627370496+K)=(if neg then 9223372036854775808 else 0)+((L+1022) * 4503599627370496+K):=by
  unfold Ieee.Format.word
  rw[hs]
  cases neg<;>simp
 unfold Ieee.Format.read
 simp only[hp,hb,hi,hs,hw]
 have hneg:(((if neg then 9223372036854775808 else 0)+((L+1022) * 4503599627370496+K)) / 9223372036854775808 % 2==1)=neg:=by
  cases neg
  ·rw[beq_eq_false_iff_ne];simp only[Bool.false_eq_true,if_false];omega
  ·rw[beq_iff_eq];simp only[if_true];omega
 have hr:((if neg then 9223372036854775808 else 0)+((L+1022) * 4503599627370496+K)) % 9223372036854775808=(L+1022) * 4503599627370496+K:=by
  cases neg
  ·simp only[Bool.false_eq_true,if_false];omega
  ·simp only[if_true];omega
 rw[hneg,hr,if_neg (by omega),if_pos (by omega)]
 have q1:4503599627370496+((L+1022) * 4503599627370496+K) % 4503599627370496=K:=by omega
 have q2:(-1074:Int)+((((L+1022) * 4503599627370496+K) / 4503599627370496-1:Nat):Int)=(L:Int)-52:=by omega
 rw[q1,q2]
theorem zds{n:Int}(h0:n≠0)(h:n.natAbs<9007199254740992):Ieee.double.read (zax n)=.number (decide (n<0)) (zd7 n.natAbs) ((n.natAbs.log2:Int)-52):=by
 have hm:0<n.natAbs:=by omega
 obtain⟨b1,b2⟩:=zdz hm h
 have e:zax n=Ieee.double.nearest (decide (n<0)) n.natAbs 0:=rfl
 rw[e,zkh _ hm h,zoy _ (zhH hm h) b1 b2]
theorem zcR:zax 0=0:=by decide
theorem zhr:Ieee.double.read 0=.number false 0 (-1074):=by decide
theorem zcG{n:Int}(h0:n≠0)(h:n.natAbs<9007199254740992){base:Int}(hb:base≤(n.natAbs.log2:Int)-52) :
 Ieee.signed (decide (n<0)) (zd7 n.natAbs) ((n.natAbs.log2:Int)-52-base).toNat=n * 2 ^ (-base).toNat:=by
 have hm:0<n.natAbs:=by omega
 have hl:=zhH hm h
 have hs:zd7 n.natAbs <<< ((n.natAbs.log2:Int)-52-base).toNat=n.natAbs * 2 ^ (-base).toNat:=by
  unfold zd7
  rw[Nat.shiftLeft_eq,Nat.mul_assoc,←Nat.pow_add]
  congr 2
  omega
 unfold Ieee.signed
 rw[hs]
 by_cases hn:n<0
 ·rw[decide_eq_true hn,if_pos rfl]
  have e:n = -(n.natAbs:Int):=by omega
  conv=>rhs;rw[e]
  push_cast
  rw[Int.neg_mul]
 ·rw[decide_eq_false hn,if_neg (by decide)]
  have e:n=(n.natAbs:Int):=by omega
  conv=>rhs;rw[e]
  push_cast
  rfl
theorem zdg(a b:Int)(k:Nat):compare (a * 2 ^ k) (b * 2 ^ k)=compare a b:=by
 have hp:(0:Int)<2 ^ k:=Int.pow_pos (by decide)
 rcases Int.lt_trichotomy a b with h|h|h
 ·rw[(Int.compare_eq_lt).2 h,(Int.compare_eq_lt).2 (Int.mul_lt_mul_of_pos_right h hp)]
 ·rw[h,(Int.compare_eq_eq).2 rfl,(Int.compare_eq_eq).2 rfl]
 ·rw[(Int.compare_eq_gt).2 h,(Int.compare_eq_gt).2 (Int.mul_lt_mul_of_pos_right h hp)]
theorem znQ{a b:Int}(ha:a.natAbs<9007199254740992)(hb:b.natAbs<9007199254740992):Ieee.double.order (zax a) (zax b)=some (compare a b):=by
 unfold Ieee.Format.order
 have hz:∀k,Ieee.signed false 0 k=0:=fun k=>by simp[Ieee.signed]
 by_cases h0:a=0
 ·by_cases h1:b=0
  ·subst h0 h1;decide
  ·subst h0
   rw[zcR,zhr,zds h1 hb]
   have hl:=zhH (m:=b.natAbs) (by omega) hb
   simp only[Ieee.Datum.order]
   rw[hz,zcG h1 hb (by omega)]
   have:=zdg 0 b (-(min (-1074) ((b.natAbs.log2:Int)-52))).toNat
   rw[Int.zero_mul] at this
   rw[this]
 ·by_cases h1:b=0
  ·subst h1
   rw[zcR,zhr,zds h0 ha]
   simp only[Ieee.Datum.order]
   rw[hz,zcG h0 ha (by omega)]
   have:=zdg a 0 (-(min ((a.natAbs.log2:Int)-52) (-1074))).toNat
   rw[Int.zero_mul] at this
   rw[this]
  ·rw[zds h0 ha,zds h1 hb]
   simp only[Ieee.Datum.order]
   rw[zcG h0 ha (by omega),zcG h1 hb (by omega),zdg]
theorem zp5{m:Nat}(hm:0<m)(h:m<9007199254740992):(zd7 m).log2=52:=by
 obtain⟨b1,b2⟩:=zdz hm h
 have h1:(zd7 m).log2<53:=(Nat.log2_lt (by omega)).2 (by simpa using b2)
 have h2:52≤(zd7 m).log2:=(Nat.le_log2 (by omega)).2 (by simpa using b1)
 omega
theorem zfv{n:Int}(h0:n≠0)(h:n.natAbs<9007199254740992):(Ieee.double.read (zax n)).integral .zero=.number (decide (n<0)) n.natAbs 0:=by
 have hm:0<n.natAbs:=by omega
 have hl:=zhH hm h
 rw[zds h0 h]
 unfold Ieee.Datum.integral Ieee.Toward.cut
 have e1:((n.natAbs.log2:Int)-52).toNat=0:=by omega
 have e2:(-((n.natAbs.log2:Int)-52)).toNat=52-n.natAbs.log2:=by omega
 simp only[e1,e2,Nat.shiftLeft_zero,zp5 hm h]
 have e3:min (52-n.natAbs.log2) (52+2)=52-n.natAbs.log2:=by omega
 rw[e3,Nat.shiftLeft_eq,Nat.one_mul]
 have e4:zd7 n.natAbs / 2 ^ (52-n.natAbs.log2)=n.natAbs:=by
  unfold zd7
  exact Nat.mul_div_cancel _ (Nat.pow_pos (by decide))
 rw[e4]
 simp
theorem znM{n:Int}(h:n.natAbs<9007199254740992):(Ieee.double.read (zax n)).toInt .zero=some n:=by
 by_cases h0:n=0
 ·subst h0;decide
 ·unfold Ieee.Datum.toInt
  rw[zfv h0 h]
  simp only[Ieee.signed,Nat.shiftLeft_zero]
  by_cases hn:n<0
  ·rw[decide_eq_true hn,if_pos rfl];congr 1;omega
  ·rw[decide_eq_false hn,if_neg (by decide)];congr 1;omega
theorem zng{n:Int}(h:n.natAbs<9007199254740992):Ieee.double.write ((Ieee.double.read (zax n)).integral .zero)=zax n:=by
 by_cases h0:n=0
 ·subst h0;decide
 ·rw[zfv h0 h]
  rfl
theorem zfu{n:Int}(h0:n≠0)(h:n.natAbs<9007199254740992):zax n=(if n<0 then 9223372036854775808 else 0)+((n.natAbs.log2+1022) * 4503599627370496+zd7 n.natAbs):=by
 have hm:0<n.natAbs:=by omega
 have hs:Ieee.double.signWeight=9223372036854775808:=by decide
 have e:zax n=Ieee.double.nearest (decide (n<0)) n.natAbs 0:=rfl
 rw[e,zkh _ hm h]
 unfold Ieee.Format.word
 rw[hs]
 by_cases hn:n<0
 ·simp[hn]
 ·simp[hn]
theorem ziO{n:Int}(h0:n≠0)(h:n.natAbs<9007199254740992):(n.natAbs.log2+1022) * 4503599627370496+zd7 n.natAbs<9223372036854775808:=by
 have hm:0<n.natAbs:=by omega
 obtain⟨b1,b2⟩:=zdz hm h
 have:=zhH hm h
 omega
theorem zoj{n:Int}(h:n.natAbs<9007199254740992):zax n<18446744073709551616:=by
 by_cases h0:n=0
 ·subst h0;decide
 ·rw[zfu h0 h]
  have:=ziO h0 h
  split<;>omega
theorem zp3{n:Int}(h:n.natAbs<9007199254740992):zax n % 9223372036854775808=zax (n.natAbs:Int):=by
 by_cases h0:n=0
 ·subst h0;decide
 ·have hl:=ziO h0 h
  rw[zfu h0 h,zfu (n:=(n.natAbs:Int)) (by omega) (by omega),if_neg (show ¬((n.natAbs:Int)<0) by omega)]
  simp only[Int.natAbs_natCast]
  split<;>omega
theorem zoH{n:Int}(h:n.natAbs<9007199254740992):decide (9223372036854775808≤zax n)=decide (n<0):=by
 by_cases h0:n=0
 ·subst h0;decide
 ·have hl:=ziO h0 h
  rw[zfu h0 h]
  by_cases hn:n<0
  ·rw[if_pos hn,decide_eq_true hn];exact decide_eq_true (by omega)
  ·rw[if_neg hn,decide_eq_false hn];exact decide_eq_false (by omega)
end
section
open Go.RowKit
set_option maxRecDepth 100000
theorem zdw{P:Program}(x:Nat){s:Bool}{m:Nat}{p:Int}(hx:FloatKind.decode .f64 x=.number s m p)(w:World) :
 (Extern.MathFloor.toIntegral "math.archTrunc" .zero #[.float .f64 x]).run P w=.ok (.float .f64 (FloatKind.encode .f64 ((Ieee.Datum.number s m p).integral .zero))) w:=by
 obtain⟨A,hA⟩:∃A:Bool→Nat→Sem Value,Extern.MathFloor.toIntegral "math.archTrunc" .zero #[.float .f64 x]=(match FloatKind.decode .f64 x with|.nan s t=>A s t|d=>pure (.float .f64 (FloatKind.encode .f64 (d.integral .zero)))):=⟨_,rfl⟩
 rw[hA,hx]
 rfl
theorem zhz{P:Program}{n:Int}(h:n.natAbs<9007199254740992)(w:World):(Extern.MathFloor.toIntegral "math.archTrunc" .zero #[.float .f64 (zax n)]).run P w=.ok (.float .f64 (zax n)) w:=by
 have ht:=zng h
 have hd:FloatKind.decode .f64 (zax n)=Ieee.double.read (zax n):=rfl
 by_cases h0:n=0
 ·subst h0
  rw[zcR,zhr] at*
  rw[zdw 0 hd]
  exact congrArg (fun b=>Result.ok (Value.float .f64 b) w) ht
 ·rw[zds h0 h] at*
  rw[zdw _ hd]
  exact congrArg (fun b=>Result.ok (Value.float .f64 b) w) ht
theorem znR{n:Int}(h:n.natAbs<9007199254740992)(w:World):(callFunc 277 #[.float .f64 (zax n)]).run Tryz.prog w=.ok (.value (.float .f64 (zax n))) w:=by
 have:=run_callFunc_extern (P:=Tryz.prog) (e:=Extern.MathFloor.toIntegral "math.archTrunc" .zero) Tryz.func277 (by kernel_rfl) (by kernel_rfl) (by kernel_rfl) (by kernel_rfl) #[.float .f64 (zax n)] w
 rw[this,zhz h]
 rfl
theorem zih(b:Nat)(w:World):(callFunc 280 #[.float .f64 b]).run Tryz.prog w=.ok (.value (.int .u64 b)) w:=by
 have:=run_callFunc_extern (P:=Tryz.prog) (e:=Extern.MathFloatBits.float64bits) Tryz.func280 (by kernel_rfl) (by kernel_rfl) (by kernel_rfl) (by kernel_rfl) #[.float .f64 b] w
 rw[this]
 rfl
theorem zkt(b:Nat)(w:World):(callFunc 279 #[.int .u64 b]).run Tryz.prog w=.ok (.value (.float .f64 b)) w:=by
 have:=run_callFunc_extern (P:=Tryz.prog) (e:=Extern.MathFloatBits.float64frombits) Tryz.func279 (by kernel_rfl) (by kernel_rfl) (by kernel_rfl) (by kernel_rfl) #[.int .u64 b] w
 rw[this]
 rfl
theorem zni{n:Int}(h:n.natAbs<9007199254740992)(w:World):Calls Tryz.prog 274 #[.float .f64 (zax n)] w fun e w'=>e=.returned (.float .f64 (zax n))∧w'=w:=by
 have ht:=fun w=>znR h w
 generalize zax n=b at*
 go_enter Tryz.func274,Tryz.ntmps274
 go_wp2
 go_ret
 exact⟨rfl,rfl⟩
theorem zrN{n:Int}(h:n.natAbs<9007199254740992):bits .andNot .u64 (zax n) 9223372036854775808=(zax (n.natAbs:Int):Int):=by
 have hl:=zoj h
 have ha:=zp3 h
 have hk:zax (n.natAbs:Int)<9223372036854775808:=by rw[←ha];exact Nat.mod_lt _ (by decide)
 have e1:(BitVec.ofInt 64 (zax n:Int)&&& ~~~BitVec.ofInt 64 9223372036854775808).toNat=zax n % 9223372036854775808:=by
  have e2 : ~~~BitVec.ofInt 64 9223372036854775808=BitVec.ofNat 64 (2 ^ 63-1):=by decide
  rw[e2,BitVec.toNat_and,BitVec.toNat_ofNat]
  have e3:(BitVec.ofInt 64 (zax n:Int)).toNat=zax n:=by
   rw[BitVec.toNat_ofInt]
   omega
  rw[e3,show(2 ^ 63-1) % 2 ^ 64=2 ^ 63-1 by decide,Nat.and_two_pow_sub_one_eq_mod]
 show IntKind.wrap .u64 ((BitVec.ofInt 64 (zax n:Int)&&& ~~~BitVec.ofInt 64 9223372036854775808).toNat:Int)=_
 rw[e1,ha]
 unfold IntKind.wrap
 simp[IntKind.signed,IntKind.bits]
 omega
theorem zq4{n:Int}(h:n.natAbs<9007199254740992)(w:World):Calls Tryz.prog 275 #[.float .f64 (zax n)] w fun e w'=>e=.returned (.float .f64 (zax (n.natAbs:Int)))∧w'=w:=by
 have ht:=fun w=>zih (zax n) w
 have hf:=fun w=>zkt (zax (n.natAbs:Int)) w
 have ha:=zrN h
 generalize zax (n.natAbs:Int)=c at*
 generalize zax n=b at*
 go_enter Tryz.func275,Tryz.ntmps275
 go_wp2
 go_ret
 exact⟨rfl,rfl⟩
theorem zog{b:Nat}(h:b<18446744073709551616):decide (wrap64 (b:Int)<0)=decide (9223372036854775808≤b):=by
 have:wrap64 (b:Int)<0↔9223372036854775808≤b:=by unfold wrap64;omega
 exact decide_eq_decide.mpr this
theorem zpU{n:Int}(h:n.natAbs<9007199254740992)(w:World):Calls Tryz.prog 276 #[.float .f64 (zax n)] w fun e w'=>e=.returned (.bool (decide (n<0)))∧w'=w:=by
 have ht:=fun w=>zih (zax n) w
 have hs:=zoH h
 have hl:=zoj h
 rw[←hs]
 generalize zax n=b at*
 clear hs h
 go_enter Tryz.func276,Tryz.ntmps276
 go_wp2
 have hc:=zog hl
 go_ret
 exact⟨by rw[hc];rfl,rfl⟩
theorem zfb{a b:Int}(ha:a.natAbs<9007199254740992)(hb:b.natAbs<9007199254740992):(FloatKind.f64).format.order (zax a) (zax b)=some (compare a b):=znQ ha hb
theorem zkq:zax 1000000=4696837146684686336:=by decide
theorem zrb:zax 1=4607182418800017408:=by decide
theorem zoI:zax (-1)=13830554455654793216:=by decide
theorem zmF{n:Int}(h:n.natAbs<9007199254740992)(w:World):Calls Tryz.prog 265 #[.float .f64 (zax n)] w fun e w'=>e=.returned (.bool (decide (n.natAbs≤1000000)))∧w'=w:=by
 have h1:=fun w=>zni h w
 have h2:=fun w=>zq4 h w
 have h3:=fun w=>zpU h w
 have c1:((FloatKind.f64).format.order (zax n) (zax n)==some .eq)=true:=by rw[zfb h h];simp
 have c2:((FloatKind.f64).format.order (zax (n.natAbs:Int)) 4696837146684686336==some .lt || (FloatKind.f64).format.order (zax (n.natAbs:Int)) 4696837146684686336==some .eq)=decide (n.natAbs≤1000000):=by
  rw[←zkq,zfb (by omega) (by decide)]
  rcases Int.lt_trichotomy (n.natAbs:Int) 1000000 with h|h|h
  ·rw[(Int.compare_eq_lt).2 h];simp;omega
  ·rw[(Int.compare_eq_eq).2 h];simp;omega
  ·rw[(Int.compare_eq_gt).2 h];simp;omega
 have c3:((FloatKind.f64).format.order (zax n) 0 != some .eq)=decide (n≠0):=by
  rw[←zcR,zfb h (by decide)]
  rcases Int.lt_trichotomy n 0 with h|h|h
  ·have hn:n≠0:=by omega
   rw[(Int.compare_eq_lt).2 h];simp[hn]
  ·rw[(Int.compare_eq_eq).2 h];simp[h]
  ·have hn:n≠0:=by omega
   rw[(Int.compare_eq_gt).2 h];simp[hn]
 generalize zax n=b at*
 generalize zax (n.natAbs:Int)=c at*
 go_enter Tryz.func265,Tryz.ntmps265
 go_wp2_with (first
  |(go_at_call 274;(with_reducible refine(h1 _).mono ?_);rintro e w1 ⟨rfl,rfl⟩)
  |(go_at_call 275;(with_reducible refine(h2 _).mono ?_);rintro e w1 ⟨rfl,rfl⟩)
  | (go_at_call 276;(with_reducible refine (h3 _).mono ?_);rintro e w1 ⟨rfl,rfl⟩))
 all_goals clear h1 h2 h3
 all_goals go_ret
 all_goals exact⟨by simp[*]<;>(try rfl),rfl⟩
theorem zkF{a b:Int}(ha:a.natAbs<9007199254740992)(hb:b.natAbs<9007199254740992)(w:World):Calls Tryz.prog 242 #[.complex .f64 (zax a) (zax b)] w fun e w'=>e=.returned (.bool (decide (a.natAbs≤1000000)&&decide (b.natAbs≤1000000)))∧w'=w:=by
 have h1:=fun w=>zmF ha w
 have h2:=fun w=>zmF hb w
 generalize zax a=x at*
 generalize zax b=y at*
 generalize decide (a.natAbs≤1000000)=d at*
 generalize decide (b.natAbs≤1000000)=f at*
 go_enter Tryz.func242,Tryz.ntmps242
 go_wp2_with (first
  |(go_at_call 265;(with_reducible refine(h1 _).mono ?_);rintro e w1 ⟨rfl,rfl⟩)
  | (go_at_call 265;(with_reducible refine (h2 _).mono ?_);rintro e w1 ⟨rfl,rfl⟩))
 all_goals go_ret
 all_goals exact⟨by simp[*]<;>(try rfl),rfl⟩
theorem zos{n:Int}(h:n.natAbs<9007199254740992):floatToIntVal .f64 (zax n) .i64=some n:=by
 have ht:=znM h
 have hd:FloatKind.decode .f64 (zax n)=Ieee.double.read (zax n):=rfl
 unfold floatToIntVal
 rw[hd,ht]
 have h1:IntKind.i64.min = -9223372036854775808:=by decide
 have h2:IntKind.i64.max=9223372036854775807:=by decide
 show(if IntKind.i64.min≤n∧n≤IntKind.i64.max then some n else none)=some n
 rw[if_pos ⟨by omega,by omega⟩]
theorem zre{n:Int}(h:n.natAbs<9007199254740992)(w:World):(convert 267 2 (.float .f64 (zax n))).run Tryz.prog w=.ok (.int .i64 n) w:=
 run_convert_float_int w _ _ .f64 .i64 _ n (by rw[Tryz.underlying267];rfl) Tryz.underlying2 (zos h)
theorem zhy{n:Int}(h:n.natAbs<9007199254740992)(w:World)(hG:Gl w):Calls Tryz.prog 243 #[.float .f64 (zax n)] w fun e w'=>e=.returned (.string (str (Lib.itoa n)))∧Ext w w':=by
 have hc:=zre h w
 have hf:=zbl n w hG (by omega) (by omega)
 generalize zax n=b at*
 go_enter Tryz.func243,Tryz.ntmps243
 go_wp2_with(go_at_call 193;(with_reducible refine hf.mono ?_);rintro e w1 ⟨rfl,hx⟩)
 go_ret
 exact⟨rfl,hx⟩
theorem zju{l:List UInt8}{n:Int}(h:Lib.parseIntB 32 l=.ok n):n.natAbs≤2147483648:=by
 unfold Lib.parseIntB at h
 split at h
 ·cases h
 ·simp only at h
  split at h
  ·cases h
  ·cases h
  ·split at h
   ·cases h
   ·split at h
    ·cases h
    ·cases h
     split<;>omega
theorem ziN(s:ByteArray)(n:Int)(w:World)(hs:s.size≤4000000)(h:Lib.parseIntB 32 (bys s)=.ok n) :
 Calls Tryz.prog 192 #[.string s,.int .i64 10,.int .i64 32] w fun e w'=>e=.returned (.tuple #[.int .i64 n,.nilIface])∧Ext w w':=by
 refine(Any.strconv_ParseInt_10_at32_ok Tryz.laysC174 s (by omega) n h w).mono ?_
 rintro e w' ⟨rfl,rfl|⟨t,rfl⟩⟩
 ·exact⟨rfl,Ext.refl _⟩
 ·exact⟨rfl,zj0 _ _ _⟩
theorem zs4(l:List UInt8):(Lib.intSat 32 l).natAbs<9007199254740992:=by
 unfold Lib.intSat
 split<;>decide
theorem zhQ(s:ByteArray)(w:World)(hG:Gl w)(hs:s.size≤4000000)(h:∀n,Lib.parseIntB 32 (bys s)≠.ok n) :
 Calls Tryz.prog 192 #[.string s,.int .i64 10,.int .i64 32] w fun e w'=>(∃(n:Int) (tp:Nat) (a:Addr),n.natAbs<9007199254740992∧e=.returned (.tuple #[.int .i64 n,.iface tp (.pointer (some a))]))∧Ext w w':=by
 obtain⟨-,⟨t1,p1,h1⟩,⟨t2,p2,h2⟩,-⟩:=hG
 rcases hp:Lib.parseIntB 32 (bys s) with n|_|_
 ·exact absurd hp (h n)
 ·refine(Any.strconv_ParseInt_10_at32_syntax_var Tryz.laysC174 s (by omega) hp t1 p1 w h1).mono ?_
  rintro e w' ⟨N,rfl,_,_,hx⟩
  exact⟨⟨_,_,_,by decide,rfl⟩,hx⟩
 ·refine(Any.strconv_ParseInt_10_at32_range_var Tryz.laysC174 s (by omega) hp t2 p2 w h2).mono ?_
  rintro e w' ⟨N,rfl,_,_,hx⟩
  exact⟨⟨_,_,_,zs4 _,rfl⟩,hx⟩
def zdD(s:ByteArray)(w:World)(e:Ending)(w':World):Prop:=∃(n:Int) (b:Bool),n.natAbs<9007199254740992∧e=.returned (.tuple #[.float .f64 (zax n),.bool b])∧Ext w w'∧(b=true→Lib.parseIntB 32 (bys s)=.ok n)∧(b=false→∀n,Lib.parseIntB 32 (bys s)≠.ok n)
theorem zjy(n:Int)(w:World):(convert 2 267 (.int .i64 n)).run Tryz.prog w=.ok (.float .f64 (zax n)) w:=
 run_convert_int_float w _ _ .i64 .f64 n (by rw[Tryz.underlying2];rfl) Tryz.underlying267
theorem zf7(s:ByteArray)(w:World)(hG:Gl w)(hs:s.size≤4000000):Calls Tryz.prog 217 #[.string s] w (zdD s w):=by
 by_cases hp:∃n,Lib.parseIntB 32 (bys s)=.ok n
 ·obtain⟨n,hn⟩:=hp
  have hb:=zju hn
  have HC:=ziN s n w hs hn
  have hc:=zjy n
  have HS:∀w',Ext w w'→zdD s w (.returned (.tuple #[.float .f64 (zax n),.bool true])) w':=fun w' hx=>⟨n,true,by omega,rfl,hx,fun _=>hn,fun h=>by cases h⟩
  generalize zax n=b at*
  clear hn hb
  generalize zdD s w=R at*
  go_enter Tryz.func217,Tryz.ntmps217
  go_wp2_with(go_at_call 192;(with_reducible refine HC.mono ?_);rintro e w1 ⟨rfl,hx⟩;have HX:=hid hx;clear hx HC)
  refine zac (.read 0 (.read 1 (.read 2 (.read 3 (.read 4 (.read 5 .done)))))) (by kernel_rfl) (by kernel_rfl) ?_
  intro wD hxD
  repeat' ((first
   |refine zaf rfl rfl ?_
   |refine zad rfl rfl ?_
   |refine zai rfl rfl ?_
   |refine zab rfl rfl ?_
   |(refine zae (v:=?_) rfl rfl (fun w' hE=>?_) ?_;rotate_left 1;(· ((try(have hEx:=Ext.trans (Hid.out XE) hE));go_simp;(try go_bits);with_reducible rfl)))
   |refine walks_alt ?_ ?_
   | (refine zah rfl rfl (fun K hK=>?_);go_wp2_with (fail);refine hK _ _ (by first | assumption | exact Ext.alloc _ _ | exact Ext.refl _) ?_;clear hK K));try simp only [Act.put,Act.eval,evs])
  refine zag ?_
  go_wp2
  first|exact HX.out.trans hxD|exact HS _ (HX.out.trans hxD)
 ·have HC:=zhQ s w hG hs (fun n hn=>hp ⟨n,hn⟩)
  have HS:∀n w',n.natAbs<9007199254740992→Ext w w'→zdD s w (.returned (.tuple #[.float .f64 (zax n),.bool false])) w':=fun n w' hb hx=>⟨n,false,hb,rfl,hx,fun h=>by(cases h),fun _ n hn=>hp ⟨n,hn⟩⟩
  clear hp
  generalize zdD s w=R at*
  go_enter Tryz.func217,Tryz.ntmps217
  go_wp2_with(go_at_call 192;(with_reducible refine HC.mono ?_);rintro e w1 ⟨⟨n,tp,a,hb,rfl⟩,hx⟩;have HX:=hid hx;have HS:=HS n;have hc:=zjy n;clear hx HC)
  generalize zax n=b at*
  refine zac (.read 0 (.read 1 (.read 2 (.read 3 (.read 4 (.read 5 .done)))))) (by kernel_rfl) (by kernel_rfl) ?_
  intro wD hxD
  repeat' ((first
   |refine zaf rfl rfl ?_
   |refine zad rfl rfl ?_
   |refine zai rfl rfl ?_
   |refine zab rfl rfl ?_
   |(refine zae (v:=?_) rfl rfl (fun w' hE=>?_) ?_;rotate_left 1;(· ((try(have hEx:=Ext.trans (Hid.out XE) hE));go_simp;(try go_bits);with_reducible rfl)))
   |refine walks_alt ?_ ?_
   | (refine zah rfl rfl (fun K hK=>?_);go_wp2_with (fail);refine hK _ _ (by first | assumption | exact Ext.alloc _ _ | exact Ext.refl _) ?_;clear hK K));try simp only [Act.put,Act.eval,evs])
  refine zag ?_
  go_wp2
  exact HS _ hb (HX.out.trans hxD)
theorem zhq(s old new:ByteArray)(r:List UInt8)(w:World)(hG:Gl w)(hs:s.size<100)(h1:1≤old.size)(h2:Lib.countB s old * new.size≤1000)(hr:Lib.replace s.data.toList old.data.toList new.data.toList 1=r) :
 Calls Tryz.prog 244 #[.string s,.string old,.string new,.int .i64 1] w fun e w'=>e=.returned (.string (str r))∧Ext w w':=by
 obtain⟨m,hm⟩:=hG.maxlen
 refine(Tryz.strings_Replace s old new 1 m w (by omega) hm h1 (by omega)).mono ?_
 rintro e w' ⟨rfl,hx⟩
 rw[hr]
 exact⟨rfl,hx⟩
theorem zlH(w:World)(hG:Gl w):Calls Tryz.prog 244 #[.string (str [49]++⟨#[105]⟩),.string ⟨#[49]⟩,.string ⟨#[]⟩,.int .i64 1] w fun e w'=>e=.returned (.string (str [105]))∧Ext w w':=
 zhq _ _ _ _ w hG (by decide) (by decide) (by decide) (by decide)
theorem zj6(w:World)(hG:Gl w):Calls Tryz.prog 244 #[.string (str [45,49]++⟨#[105]⟩),.string ⟨#[49]⟩,.string ⟨#[]⟩,.int .i64 1] w fun e w'=>e=.returned (.string (str [45,105]))∧Ext w w':=
 zhq _ _ _ _ w hG (by decide) (by decide) (by decide) (by decide)
theorem zeU(a b:Int):zaE a b=(decide (a.natAbs≤1000000)&&decide (b.natAbs≤1000000)):=by
 unfold zaE
 by_cases h1:a.natAbs≤1000000<;>by_cases h2:b.natAbs≤1000000<;>simp[h1,h2]<;>omega
theorem zjm{a b:Int}(ha:a.natAbs<9007199254740992)(hb:b.natAbs<9007199254740992):((FloatKind.f64).format.order (zax a) (zax b)==some .eq)=decide (a=b):=by
 rw[zfb ha hb]
 rcases Int.lt_trichotomy a b with h|h|h
 ·have hn:a≠b:=by omega
  rw[(Int.compare_eq_lt).2 h];simp[hn]
 ·rw[(Int.compare_eq_eq).2 h];simp[h]
 ·have hn:a≠b:=by omega
  rw[(Int.compare_eq_gt).2 h];simp[hn]
theorem zrJ{a b:Int}(ha:a.natAbs<9007199254740992)(hb:b.natAbs<9007199254740992):((FloatKind.f64).format.order (zax a) (zax b)==some .gt)=decide (b<a):=by
 rw[zfb ha hb]
 rcases Int.lt_trichotomy a b with h|h|h
 ·have hn:¬b<a:=by omega
  rw[(Int.compare_eq_lt).2 h];simp[hn]
 ·have hn:¬b<a:=by omega
  rw[(Int.compare_eq_eq).2 h];simp[hn]
 ·rw[(Int.compare_eq_gt).2 h];simp[h]
theorem zqZ:Lib.itoa 1=[49]:=by
 unfold Lib.itoa
 rw[if_neg (by decide),zcp (by decide)]
 decide
theorem zoq:Lib.itoa (-1)=[45,49]:=by
 unfold Lib.itoa
 rw[if_pos (by decide),zcp (by decide)]
 decide
def PhPrintSays(a b:Int)(w:World)(e:Ending)(w':World):Prop:=e=.returned (.tuple #[.string (str (if zaE a b then zaR a b else[])),.int .i64 (if zaE a b then 0 else 1)])∧Ext w w'
theorem PhPrintSays.of{a b:Int}{w w':World}{l:List UInt8}(h:zaE a b=true)(hl:zaR a b=l)(hx:Ext w w'):PhPrintSays a b w (.returned (.tuple #[.string (str l),.int .i64 0])) w':=⟨by rw[h,←hl];rfl,hx⟩
theorem zbz{a b:Int}(ha:a.natAbs<9007199254740992)(hb:b.natAbs<9007199254740992)(w:World)(hG:Gl w):Calls Tryz.prog 218 #[.complex .f64 (zax a) (zax b)] w (PhPrintSays a b w):=by
 have HG:=hid hG
 have h1:=fun w=>zkF ha hb w
 have hia:=fun w hG=>zhy ha w hG
 have hib:=fun w hG=>zhy hb w hG
 have e0:((FloatKind.f64).format.order (zax b) 0==some .eq)=decide (b=0):=by rw[←zcR];exact zjm hb (by decide)
 have e1:((FloatKind.f64).format.order (zax b) 4607182418800017408==some .eq)=decide (b=1):=by rw[←zrb];exact zjm hb (by decide)
 have e2:((FloatKind.f64).format.order (zax b) 13830554455654793216==some .eq)=decide (b = -1):=by rw[←zoI];exact zjm hb (by decide)
 have e3:((FloatKind.f64).format.order (zax a) 0==some .eq)=decide (a=0):=by rw[←zcR];exact zjm ha (by decide)
 have e4:((FloatKind.f64).format.order (zax b) 0==some .gt)=decide (0<b):=by rw[←zcR];exact zrJ hb (by decide)
 simp only[←zeU] at h1
 generalize zax a=x at*
 generalize zax b=y at*
 clear hG
 cases hW:zaE a b with
 |false=>
  rw[hW] at h1
  have HS:∀w',Ext w w'→PhPrintSays a b w (.returned (.tuple #[.string ⟨#[]⟩,.int .i64 1])) w':=fun w' hx=>⟨by rw[hW];rfl,hx⟩
  generalize PhPrintSays a b w=R at*
  clear e0 e1 e2 e3 e4 hia hib hW
  go_enter Tryz.func218,Tryz.ntmps218
  go_wp2_with(go_at_call 242;(with_reducible refine(h1 _).mono ?_);rintro e w1 ⟨rfl,rfl⟩)
  exact Ext.refl _
 |true=>
  rw[hW] at h1
  have HS:∀{l w'},zaR a b=l→Ext w w'→PhPrintSays a b w (.returned (.tuple #[.string (str l),.int .i64 0])) w':=fun hl hx=>PhPrintSays.of hW hl hx
  have HP:Hid (∀l,zaR a b=l↔(if b=0 then Lib.itoa a else if a=0 then zaH b else if 0<b then Lib.itoa a++43::zaH b else Lib.itoa a++zaH b)=l):=fun l=>Iff.rfl
  have HS2:∀{s w'},s=str (zaR a b)→Ext w w'→PhPrintSays a b w (.returned (.tuple #[.string s,.int .i64 0])) w':=fun hs hx=>by rw[hs];exact HS rfl hx
  have HB:a.natAbs≤1000000∧b.natAbs≤1000000:=by rw[zeU] at hW;simpa using hW
  clear hW
  generalize PhPrintSays a b w=R at*
  by_cases b0:b=0
  ·have t0:((FloatKind.f64).format.order y 0==some .eq)=true:=by rw[e0];simp[b0]
   have HL:Hid (zaR a b=Lib.itoa a):=by show _=_;unfold zaR;rw[if_pos b0]
   clear e0 e1 e2 e3 e4 hib b0 HP
   go_enter Tryz.func218,Tryz.ntmps218
   go_wp2_with (first
    |(go_at_call 242;(with_reducible refine(h1 _).mono ?_);rintro e w1 ⟨rfl,rfl⟩)
    | (go_at_call 243;(with_reducible refine (hia _ HG.out).mono ?_);rintro e w1 ⟨rfl,hx⟩))
   exact HS HL.out hx
  ·have t0:((FloatKind.f64).format.order y 0==some .eq)=false:=by rw[e0];simp[b0]
   have hab:a.natAbs≤1000000∧b.natAbs≤1000000:=HB
   have HL1:Hid (a=0→zaR a b=zaH b):=fun h=>by unfold zaR;rw[if_neg b0,if_pos h]
   have HL2:Hid (a≠0→0<b→zaR a b=Lib.itoa a++43::zaH b):=fun h h'=>by unfold zaR;rw[if_neg b0,if_neg h,if_pos h']
   have HL3:Hid (a≠0→¬0<b→zaR a b=Lib.itoa a++zaH b):=fun h h'=>by unfold zaR;rw[if_neg b0,if_neg h,if_neg h']
   have z1:¬9223372036854775807<(Lib.itoa b).length+1:=by have:=zd4 b;omega
   have z2:¬9223372036854775807<1+(zaH b).length:=by have:=zd1 b;omega
   have z3:¬9223372036854775807<(Lib.itoa a).length+(zaH b).length:=by have:=zd4 a;have:=zd1 b;omega
   have z4:¬9223372036854775807<(Lib.itoa a).length+(1+(zaH b).length):=by have:=zd4 a;have:=zd1 b;omega
   have HX:=hid (Ext.refl w)
   clear e0 HP hab
   by_cases b1:b=1
   ·have HSB:zaH b=[105]:=by rw[b1];decide
    have HIB:Lib.itoa b=[49]:=by rw[b1];exact zqZ
    have t4:((FloatKind.f64).format.order y 0==some .gt)=true:=by rw[e4,b1];decide
    have t1:((FloatKind.f64).format.order y 4607182418800017408==some .eq)=true:=by rw[e1];simp[b1]
    rw[HSB] at HL1 HL2 HL3 z2 z3 z4
    rw[HIB] at hib z1
    simp only[List.length_append,List.length_cons,List.length_nil] at z1 z2 z3 z4
    have HBP:Hid ( 0<b):=by show  0<b;omega
    clear HSB HIB e1 e2 e4 b0 b1
    go_enter Tryz.func218,Tryz.ntmps218
    go_wp2_with (first
     |(go_at_call 242;(with_reducible refine(h1 _).mono ?_);rintro e w1 ⟨rfl,rfl⟩)
     |(go_at_call 243;(with_reducible refine(hib _ (HG.out.ext HX.out)).mono ?_);rintro e w1 ⟨rfl,hx⟩;have HX:=hid (HX.out.trans hx);clear hx)
     |(go_at_call 244;(with_reducible refine(zlH _ (HG.out.ext HX.out)).mono ?_);rintro e w1 ⟨rfl,hx⟩;have HX:=hid (HX.out.trans hx);clear hx)
     | (go_at_call 243;(with_reducible refine (hia _ (HG.out.ext HX.out)).mono ?_);rintro e w1 ⟨rfl,hx⟩;have HX:=hid (HX.out.trans hx);clear hx))
    all_goals clear h1 hia hib t0 z1 z2 z3 z4 e3 HS
    all_goals refine HS2 ?_ HX.out
    ·rw[HL1.out (by assumption)];try rfl
    ·rw[HL2.out (by assumption) HBP.out,show(43:UInt8)::[105]=[43]++[105] from rfl,←zbh,←zbh];try rfl
   ·by_cases b2:b = -1
    ·have HSB:zaH b=[45,105]:=by rw[b2];decide
     have HIB:Lib.itoa b=[45,49]:=by rw[b2];exact zoq
     have t4:((FloatKind.f64).format.order y 0==some .gt)=false:=by rw[e4,b2];decide
     have t1:((FloatKind.f64).format.order y 4607182418800017408==some .eq)=false:=by rw[e1];simp[b2]
     have t2:((FloatKind.f64).format.order y 13830554455654793216==some .eq)=true:=by rw[e2];simp[b2]
     rw[HSB] at HL1 HL2 HL3 z2 z3 z4
     rw[HIB] at hib z1
     simp only[List.length_append,List.length_cons,List.length_nil] at z1 z2 z3 z4
     have HBP:Hid (¬0<b):=by show ¬0<b;omega
     clear HSB HIB e1 e2 e4 b0 b2
     go_enter Tryz.func218,Tryz.ntmps218
     go_wp2_with (first
      |(go_at_call 242;(with_reducible refine(h1 _).mono ?_);rintro e w1 ⟨rfl,rfl⟩)
      |(go_at_call 243;(with_reducible refine(hib _ (HG.out.ext HX.out)).mono ?_);rintro e w1 ⟨rfl,hx⟩;have HX:=hid (HX.out.trans hx);clear hx)
      |(go_at_call 244;(with_reducible refine(zj6 _ (HG.out.ext HX.out)).mono ?_);rintro e w1 ⟨rfl,hx⟩;have HX:=hid (HX.out.trans hx);clear hx)
      | (go_at_call 243;(with_reducible refine (hia _ (HG.out.ext HX.out)).mono ?_);rintro e w1 ⟨rfl,hx⟩;have HX:=hid (HX.out.trans hx);clear hx))
     all_goals clear h1 hia hib t0 z1 z2 z3 z4 e3 HS
     all_goals refine HS2 ?_ HX.out
     ·rw[HL1.out (by assumption)];try rfl
     ·rw[HL3.out (by assumption) (by have:=HBP.out;omega),←zbh];try rfl
    ·have t1:((FloatKind.f64).format.order y 4607182418800017408==some .eq)=false:=by rw[e1];simp[b1]
     have t2:((FloatKind.f64).format.order y 13830554455654793216==some .eq)=false:=by rw[e2];simp[b2]
     have HSB:zaH b=Lib.itoa b++[105]:=by unfold zaH;rw[if_neg b1,if_neg b2]
     rw[HSB] at HL1 HL2 HL3 z2 z3 z4
     simp only[List.length_append,List.length_cons,List.length_nil] at z2 z3 z4
     clear HSB e1 e2 b0 b1 b2
     go_enter Tryz.func218,Tryz.ntmps218
     go_wp2_with (first
      |(go_at_call 242;(with_reducible refine(h1 _).mono ?_);rintro e w1 ⟨rfl,rfl⟩)
      |(go_at_call 243;(with_reducible refine(hib _ (HG.out.ext HX.out)).mono ?_);rintro e w1 ⟨rfl,hx⟩;have HX:=hid (HX.out.trans hx);clear hx)
      | (go_at_call 243;(with_reducible refine (hia _ (HG.out.ext HX.out)).mono ?_);rintro e w1 ⟨rfl,hx⟩;have HX:=hid (HX.out.trans hx);clear hx))
     all_goals clear h1 hia hib t0 t1 t2 z1 z2 z3 z4 e3 e4 HS
     all_goals refine HS2 ?_ HX.out
     ·rw[HL1.out (by assumption),←zbh];try rfl
     ·rw[HL2.out (by assumption) (by assumption),show 43::(Lib.itoa b++[105])=[43]++(Lib.itoa b++[105]) from rfl,←zbh,←zbh,←zbh];try rfl
     ·rw[HL3.out (by assumption) (by omega),←zbh,←zbh];try rfl
end
section
open Go.RowKit
set_option maxRecDepth 1000000
def zb6(v:List UInt8):Nat→Int
 |0=>-1
 |i+1=>if[43,45].contains (v[i]?.getD 0) then i else zb6 v i
theorem zra(w:World):(zeroValue 291).run Tryz.prog w=.ok (.agg (Array.replicate 256 (.bool false))) w:=
 (zero_of_info (P:=Tryz.prog) (t:=291) (v:=.agg (Array.replicate 256 (.bool false))) (n:=256) (by kernel_rfl)).1 w
theorem zqE:(Tryz.prog.info? 291).map (·.size)=some 256:=
 (zero_of_info (P:=Tryz.prog) (t:=291) (v:=.agg (Array.replicate 256 (.bool false))) (n:=256) (by kernel_rfl)).2
theorem zgp(s:ByteArray)(w:World)(h8:8<s.size)(hs:s.size≤4000000) :
 Calls Tryz.prog 216 #[.string s,.string ⟨#[43,45]⟩] w fun e w'=>e=.returned (.int .i64 (zb6 (bys s) s.size))∧Ext w w':=by
 have hM:=Tryz.strings_makeASCIISet zra ⟨#[43,45]⟩ w (by decide) (by intro j b h;match j,h with|0,h=>(cases h;decide)|1,h=>(cases h;decide))
 have h8z:decide ((8:Int)<(s.size:Int))=true:=decide_eq_true (by omega)
 have hU:=fun w=>Tryz.strings_shouldUseASCIISet s.size w
 simp only[h8z] at hU
 obtain⟨S,hS⟩:∃S,Lib.setCells [43,45]=S:=⟨_,rfl⟩
 have hS':Lib.setCells (⟨#[43,45]⟩:ByteArray).data.toList=S:=hS
 rw[hS'] at hM
 have hS1:S.size=256:=by rw[←hS];exact Lib.setCells_size _
 obtain⟨w1,hw1⟩:∃w1,w.alloc (.cells S 291)=w1:=⟨_,rfl⟩
 rw[hw1] at hM
 have HX1:=hid (show Ext w w1 by rw[←hw1];exact Ext.alloc _ _)
 have hsc:(storeCells ⟨w1.heap.size,0,none⟩ S.toList 0).run Tryz.prog (w1.alloc (.cells (Array.replicate 256 (.bool false)) 291))=.ok () (w1.alloc (.cells S 291)):=by
  have:=run_storeCells_new (P:=Tryz.prog) w1 291 (Array.replicate 256 (.bool false)) S (by rw[hS1];exact zqE) (by rw[hS1,Array.size_replicate]) (by rw[←hS];exact Lib.setCells_one _)
  simpa using this
 have HC:Hid (∀x:UInt8,(w1.alloc (.cells S 291)).cell? ⟨w1.heap.size,x.toNat,none⟩=some (.bool ([43,45].contains x))):=fun x=>by
  rw[World.cell?_alloc_at _ _ _ _ (by simp),←hS,Lib.setCells_at]
 have HX2:=hid (HX1.out.trans (Ext.alloc w1 (.cells S 291)))
 clear hS hS' hw1
 go_enter Tryz.func216,Tryz.ntmps216
 go_wp2_with (first
  |(go_at_call 238;(with_reducible refine(hU _).mono ?_);rintro e w2 ⟨rfl,rfl⟩)
  | (go_at_call 239;(with_reducible refine hM.mono ?_);rintro e w2 ⟨rfl,rfl⟩))
 have hz:Tryz.zeroCells291=Array.replicate 256 (.bool false):=by kernel_rfl
 rw[hz,hsc]
 clear hU hM hsc hz
 simp only[Result.andThen]
 rw[Oper.upon_skip]
 generalize w2.heap.size=B at*
 generalize w2.alloc (.cells S 291)=w3 at*
 go_wp2
 go_loopw [8] (fun i wr=>∃(j:Nat),j≤s.size∧i=.int .i64 ((j:Int)-1)∧wr=w3∧Hid (zb6 (bys s) s.size=zb6 (bys s) j)) (fun i _=>(intOf i+1).toNat)
 case atStart=>exact⟨s.size,by omega,rfl,rfl,rfl⟩
 case round=>
  obtain⟨j,hj,rfl,rfl,hl⟩:=hrel
  cases j with
  |zero=>
   have hd:decide ((0:Int)≤((0:Nat):Int)-1)=false:=by decide
   go_wp2
   go_ret
   exact⟨by rw[hl.out];rfl,HX2.out⟩
  |succ k=>
   have hi:k<s.size:=by omega
   obtain⟨x,hx⟩:∃x:UInt8,s[k]'hi=x:=⟨_,rfl⟩
   have hxl:(bys s)[k]?.getD 0=x:=by rw[←hx,Lib.data_getElem? s k hi];rfl
   have HL:Hid (zb6 (bys s) (k+1)=if[43,45].contains x then(k:Int) else zb6 (bys s) k):=by
    show zb6 (bys s) (k+1)=_
    rw[zb6,hxl]
   have hcx:=HC.out x
   have hk:((k+1:Nat):Int)-1=(k:Int):=by omega
   rw[hk]
   clear hxl hk
   cases hin:[43,45].contains x<;>rw[hin] at hcx HL
   ·go_wp2_with(go_at_call 240;(with_reducible refine(Tryz.asciiSet_contains B x _ _ hcx).mono ?_);rintro e w4 ⟨rfl,rfl⟩)
    exact⟨⟨k,by omega,by go_num,by first|rfl|trivial,by show _=_;rw[hl.out,HL.out];try rfl⟩,by simp[intOf]<;>omega⟩
   ·go_wp2_with(go_at_call 240;(with_reducible refine(Tryz.asciiSet_contains B x _ _ hcx).mono ?_);rintro e w4 ⟨rfl,rfl⟩)
    go_ret
    exact⟨by rw[hl.out,HL.out];rfl,HX2.out⟩
theorem zkG(s:ByteArray)(w:World)(h0:s.size=0) :
 Calls Tryz.prog 216 #[.string s,.string ⟨#[43,45]⟩] w fun e w'=>e=.returned (.int .i64 (-1))∧Ext w w':=by
 have h8z:decide ((8:Int)<(s.size:Int))=false:=decide_eq_false (by omega)
 have hU:=fun w=>Tryz.strings_shouldUseASCIISet s.size w
 simp only[h8z] at hU
 have h1:((s.size:Int)==1)=false:=by rw[beq_eq_false_iff_ne];omega
 have H0:=hid h0
 clear h0 h8z
 go_enter Tryz.func216,Tryz.ntmps216
 go_wp2_with(go_at_call 238;(with_reducible refine(hU _).mono ?_);rintro e w2 ⟨rfl,rfl⟩)
 clear hU
 go_loopw [13] (fun i wr=>i=.int .i64 0∧wr=w2) (fun i _=>0)
 case atStart=>exact⟨by rw[H0.out];rfl,rfl⟩
 case round=>
  obtain⟨rfl,rfl⟩:=hrel
  go_wp2
  go_ret
  exact⟨rfl,Ext.refl _⟩
theorem zln(s:ByteArray)(w:World)(h1:s.size=1)(x:UInt8)(hx:s[0]'(by omega)=x)(hx8:x.toNat<128) :
 Calls Tryz.prog 216 #[.string s,.string ⟨#[43,45]⟩] w fun e w'=>e=.returned (.int .i64 (if[43,45].contains x then 0 else -1))∧Ext w w':=by
 have h1':((s.size:Int)==1)=true:=by rw[beq_iff_eq];omega
 have hz:¬(128:Int)≤(x.toNat:Int):=by omega
 have hR:=fun w=>Tryz.strings_IndexRune_ascii ⟨#[43,45]⟩ x.toNat w (by omega) (by omega)
 have hb:((x.toNat:Int)).toNat.toUInt8=x:=by simp
 rw[hb] at hR
 have hcon:=Lib.contains_iff_indexByte [43,45] x
 have he:(⟨#[43,45]⟩:ByteArray).data.toList=[43,45]:=rfl
 rw[he] at hR
 have hs0:0<s.size:=by omega
 cases hin:[43,45].contains x
 rw[hin] at hcon
 have hlt:¬((0:Int)≤Lib.indexByte [43,45] x):=of_decide_eq_false hcon.symm
 rotate_left
 rw[hin] at hcon
 have hge:(0:Int)≤Lib.indexByte [43,45] x:=of_decide_eq_true hcon.symm
 rotate_left
 all_goals
  clear hcon hin
  go_enter Tryz.func216,Tryz.ntmps216
  go_wp2_with(go_at_call 237;(with_reducible refine(hR _).mono ?_);rintro e w2 ⟨rfl,rfl⟩)
  all_goals go_ret
  all_goals exact⟨rfl,Ext.refl _⟩
theorem zhS(s:ByteArray)(w:World)(n:Nat)(hn:s.size=n+1)(hs:s.size≤4000000)(x:UInt8)(hxs:(bys s)[n]?=some x)(hx8:x.toNat<128) :
 Calls Tryz.prog 241 #[.string s] w fun e w'=>e=.returned (.tuple #[.int .i32 x.toNat,.int .i64 1])∧w'=w:=by
 have hz:((s.size:Int)==0)=false:=by rw[beq_eq_false_iff_ne];omega
 have hp:((s.size:Int)-1)=(n:Int):=by omega
 have hlt:n<s.size:=by omega
 have h8:(x.toNat:Int)<128:=by omega
 have hx:s[n]'hlt=x:=by
  have:=Lib.data_getElem? s n hlt
  have e:(bys s)[n]?=some (s[n]'hlt):=this
  rw[hxs] at e
  exact(Option.some.inj e).symm
 have hnb:n<4000000:=by omega
 clear hxs hn
 go_enter Tryz.func241,Tryz.ntmps241
 go_wp2
 go_ret2
 exact⟨rfl,rfl⟩
theorem zjr(s:ByteArray)(w:World)(h2:2≤s.size)(h8:s.size≤8)(hascii:∀(j:Nat) b,(bys s)[j]?=some b→b.toNat<128) :
 Calls Tryz.prog 216 #[.string s,.string ⟨#[43,45]⟩] w fun e w'=>e=.returned (.int .i64 (zb6 (bys s) s.size))∧Ext w w':=by
 have h8z:decide ((8:Int)<(s.size:Int))=false:=decide_eq_false (by omega)
 have hU:=fun w=>Tryz.strings_shouldUseASCIISet s.size w
 simp only[h8z] at hU
 have h1:((s.size:Int)==1)=false:=by rw[beq_eq_false_iff_ne];omega
 have HA:=hid hascii
 clear hascii h8z
 go_enter Tryz.func216,Tryz.ntmps216
 go_wp2_with(go_at_call 238;(with_reducible refine(hU _).mono ?_);rintro e w2 ⟨rfl,rfl⟩)
 clear hU
 go_loopw [13] (fun i wr=>∃(j:Nat),j≤s.size∧i=.int .i64 (j:Int)∧wr=w2∧Hid (zb6 (bys s) s.size=zb6 (bys s) j)) (fun i _=>(intOf i).toNat)
 case atStart=>exact⟨s.size,by omega,rfl,rfl,rfl⟩
 case round=>
  obtain⟨j,hj,rfl,rfl,hl⟩:=hrel
  cases j with
  |zero=>
   go_wp2
   go_ret
   exact⟨by rw[hl.out];rfl,Ext.refl _⟩
  |succ k=>
   have hi:k<s.size:=by omega
   obtain⟨x,hx⟩:∃x:UInt8,s[k]'hi=x:=⟨_,rfl⟩
   have hxs:(bys s)[k]?=some x:=by rw[←hx];exact Lib.data_getElem? s k hi
   have hx8:=HA.out k x hxs
   have HL:Hid (zb6 (bys s) (k+1)=if[43,45].contains x then(k:Int) else zb6 (bys s) k):=by
    show zb6 (bys s) (k+1)=_
    rw[zb6,hxs];rfl
   have hk:(0:Int)<((k+1:Nat):Int):=by omega
   have hks:¬(s.size:Int)<((k+1:Nat):Int):=by omega
   have hR:=fun w=>Tryz.strings_IndexRune_ascii ⟨#[43,45]⟩ x.toNat w (by omega) (by omega)
   have hb:((x.toNat:Int)).toNat.toUInt8=x:=by simp
   rw[hb] at hR
   have hcon:=Lib.contains_iff_indexByte [43,45] x
   have he:(⟨#[43,45]⟩:ByteArray).data.toList=[43,45]:=rfl
   rw[he] at hR
   have hLR:=fun w=>zhS (s.extract 0 (k+1)) w k (by rw[ByteArray.size_extract];omega) (by rw[ByteArray.size_extract];omega) x (by rw[zdZ,List.drop_zero,Nat.sub_zero,List.getElem?_take];rw[if_pos (by omega)];exact hxs) hx8
   clear hxs
   cases hin:[43,45].contains x
   ·rw[hin] at hcon HL
    have hlt:¬((0:Int)≤Lib.indexByte [43,45] x):=of_decide_eq_false hcon.symm
    have hlt2:decide ((0:Int)≤Lib.indexByte [43,45] x)=false:=hcon.symm
    clear hcon hin
    go_wp2_with (first
     |(go_at_call 241;(with_reducible refine(hLR _).mono ?_);rintro e w4 ⟨rfl,rfl⟩)
     | (go_at_call 237;(with_reducible refine (hR _).mono ?_);rintro e w4 ⟨rfl,rfl⟩))
    exact⟨⟨k,by omega,by go_num,by first|rfl|trivial,by show _=_;rw[hl.out,HL.out];try rfl⟩,by simp[intOf]<;>omega⟩
   ·rw[hin] at hcon HL
    have hge:(0:Int)≤Lib.indexByte [43,45] x:=of_decide_eq_true hcon.symm
    clear hcon hin
    go_wp2_with (first
     |(go_at_call 241;(with_reducible refine(hLR _).mono ?_);rintro e w4 ⟨rfl,rfl⟩)
     | (go_at_call 237;(with_reducible refine (hR _).mono ?_);rintro e w4 ⟨rfl,rfl⟩))
    go_ret
    exact⟨by rw[hl.out,HL.out];rfl,Ext.refl _⟩
theorem zjo(s:ByteArray)(w:World)(hs:s.size≤4000000)(hascii:∀(j:Nat) b,(bys s)[j]?=some b→b.toNat<128) :
 Calls Tryz.prog 216 #[.string s,.string ⟨#[43,45]⟩] w fun e w'=>e=.returned (.int .i64 (zb6 (bys s) s.size))∧Ext w w':=by
 by_cases h0:s.size=0
 ·have:=zkG s w h0
  rw[h0]
  exact this
 ·by_cases h1:s.size=1
  ·have hd:=Lib.data_getElem? s 0 (by omega)
   have:=zln s w h1 _ rfl (hascii 0 _ hd)
   have hd':(bys s)[(0:Nat)]?=some (s[0]'(by omega)):=hd
   have e:zb6 (bys s) 1=if([43,45]:List UInt8).contains (s[0]'(by omega)) then 0 else -1:=by rw[zb6,hd'];rfl
   rw[h1,e]
   exact this
  ·by_cases h8:s.size≤8
   ·exact zjr s w (by omega) h8 hascii
   ·exact zgp s w (by omega) hs
end
section
set_option maxRecDepth 10000
theorem zcr:∀(n u:Nat),u≤n→(Lib.decDigits u).all digC=true∧zal 0 (Lib.decDigits u)=u∧Lib.decDigits u≠[]
 |n,u,hn=>by
  by_cases h:u<10
  ·rw[zcp h]
   have e:(UInt8.ofNat (48+u)).toNat=48+u:=by
    rw[UInt8.toNat_ofNat']
    omega
   refine⟨?_,?_,by simp⟩
   ·simp only[List.all_cons,List.all_nil,Bool.and_true]
    rw[zaM,e];omega
   ·show 0 * 10+((UInt8.ofNat (48+u)).toNat-48)=u
    rw[e];omega
  ·rw[zhL h]
   cases n with
   |zero=>omega
   |succ n=>
    obtain⟨h1,h2,h3⟩:=zcr n (u / 10) (by omega)
    have e:(UInt8.ofNat (48+u % 10)).toNat=48+u % 10:=by
     rw[UInt8.toNat_ofNat']
     omega
    refine⟨?_,?_,by simp⟩
    ·rw[List.all_append,Bool.and_eq_true]
     refine⟨h1,?_⟩
     simp only[List.all_cons,List.all_nil,Bool.and_true]
     rw[zaM,e];omega
    ·rw[zbm,h2,e];omega
theorem zkO{M:Nat}(hM:M<1000000000000000000)(l:List UInt8):∀acc:Nat,l.all digC=true→zal acc l≤M→Lib.parseUintM M acc l=.ok (zal acc l):=by
 induction l with
 |nil=>intro acc _ _;rfl
 |cons c t ih=>
  intro acc h hv
  simp only[List.all_cons,Bool.and_eq_true] at h
  have h1:=(zaM c).1 h.1
  have e:zal acc (c::t)=zal (acc * 10+(c.toNat-48)) t:=rfl
  rw[e] at hv ⊢
  have h2:=zfO t (acc * 10+(c.toNat-48))
  have h3:acc * 10+(c.toNat-48)≤M:=Nat.le_trans h2 hv
  unfold Lib.parseUintM
  rw[if_pos h1,if_neg (by omega),if_neg (by omega)]
  exact ih _ h.2 hv
theorem zeF{u:Nat}(h:u≤1000000):Lib.parseIntB 32 (Lib.decDigits u)=.ok (u:Int):=by
 obtain⟨h1,h2,h3⟩:=zcr u u (Nat.le_refl _)
 have hp:=zkO (M:=2 ^ 32-1) (by decide) (Lib.decDigits u) 0 h1 (by rw[h2];exact Nat.le_trans h (by decide))
 rw[h2] at hp
 cases hd:Lib.decDigits u with
 |nil=>exact absurd hd h3
 |cons c t=>
  rw[hd] at h1 hp
  simp only[List.all_cons,Bool.and_eq_true] at h1
  have hc:=(zaM c).1 h1.1
  unfold Lib.parseIntB
  simp only
  rw[if_neg (by omega)]
  unfold Lib.parseUintB
  rw[if_neg (by simp),hp]
  simp only
  have:2 ^ (32-1)=2147483648:=by decide
  rw[if_neg (by omega),if_neg (by omega),if_neg (by omega)]
theorem zdc{u:Nat}(h:u≤1000000)(c:UInt8)(hc:c.toNat=43∨c.toNat=45):Lib.parseIntB 32 (c::Lib.decDigits u)=.ok (if c.toNat=45 then -(u:Int) else u):=by
 obtain⟨h1,h2,h3⟩:=zcr u u (Nat.le_refl _)
 have hp:=zkO (M:=2 ^ 32-1) (by decide) (Lib.decDigits u) 0 h1 (by rw[h2];exact Nat.le_trans h (by decide))
 rw[h2] at hp
 unfold Lib.parseIntB
 simp only
 rw[if_pos hc]
 unfold Lib.parseUintB
 rw[if_neg h3,hp]
 simp only
 have:2 ^ (32-1)=2147483648:=by decide
 rw[if_neg (by omega),if_neg (by omega)]
theorem zdd{a:Int}(h:a.natAbs≤1000000):Lib.parseIntB 32 (Lib.itoa a)=.ok a:=by
 unfold Lib.itoa
 by_cases h0:a<0
 ·rw[if_pos h0,zdc h 45 (.inr (by decide)),if_pos (by decide)]
  congr 1
  omega
 ·rw[if_neg h0,zeF (by omega)]
  congr 1
  omega
end
section
open Go.RowKit
def zfJ(w:World)(v:Value)(L:Option Nat):Nat→Prop:=fun b=>w.heap.size≤b∧some b≠v.ownBlock∧some b≠L
structure GrowR{α:Type}(E:Elem α)(T:TypeId)(L:Option Nat)(w wr:World)(v:Value)(l:List α):Prop where
 rows:∃vss:List (List Value),vss.length=l.length∧wr.ownsRow w.heap.size T E.k v l.length vss.flatten∧(∀(i:Nat) u x,vss[i]?=some u→l[i]?=some x→E.R (zfJ w v L) wr u x)
 ext:Ext w wr
 apart:∀g,L=some g→v.ownBlock≠some g∧w.heap.size≤g∧g<wr.heap.size
section
variable {α:Type}{E:Elem α}{T:TypeId}{L:Option Nat}{w wr w':World}{v:Value}{l:List α}
theorem GrowR.nil(hx:Ext w wr)(hL:∀g,L=some g→w.heap.size≤g∧g<wr.heap.size):GrowR E T L w wr (.slice none 0 0) []:=
 ⟨⟨[],rfl,World.ownsRow_nil _ _ _ _,fun i u x h=>by simp at h⟩,hx,fun g hg=>⟨by simp[Value.ownBlock],hL g hg⟩⟩
theorem zbe{S S':Nat→Prop}{u:List Value}{x:α}(h:E.R S wr u x)(hk:∀b,S b→b<wr.heap.size→w'.heap[b]?=wr.heap[b]?)(hs:∀b,S b→b<wr.heap.size→S' b):E.R S' w' u x:=by
 have h1:E.R (fun b=>S b∧b<wr.heap.size) wr u x:=E.mono h fun b hb hS=>⟨hS,hb⟩
 have h2:E.R (fun b=>S b∧b<wr.heap.size) w' u x:=E.same h1 fun b hb=>hk b hb.1 hb.2
 exact E.mono h2 fun b _ hb=>hs b hb.1 hb.2
theorem GrowR.later(h:GrowR E T L w wr v l)(hx:Ext wr w'):GrowR E T L w w' v l:=by
 obtain⟨⟨vss,h1,h2,h3⟩,h4,h5⟩:=h
 exact⟨⟨vss,h1,zdC h2 hx,fun i u x hi hl=>zbe (h3 i u x hi hl) (fun b _ hb=>hx.block b hb) (fun b hS _=>hS)⟩,h4.trans hx,fun g hg=>⟨(h5 g hg).1,(h5 g hg).2.1,Nat.lt_of_lt_of_le (h5 g hg).2.2 hx.size⟩⟩
theorem GrowR.setL{g:Nat}(h:GrowR E T (some g) w wr v l)(i:Nat)(z:Value):GrowR E T (some g) w (wr.setCell ⟨g,i,none⟩ z) v l:=by
 obtain⟨⟨vss,h1,h2,h3⟩,h4,h5⟩:=h
 obtain⟨ha,hb,hc⟩:=h5 g rfl
 refine⟨⟨vss,h1,?_,fun i' u x hi hl=>zbe (h3 i' u x hi hl) (fun b hS _=>heap_setCell_other _ _ _ _ (fun e=>hS.2.2 (by rw[e]))) (fun b hS _=>hS)⟩,h4.setCell hb _,fun g' hg=>⟨(h5 g' hg).1,(h5 g' hg).2.1,by simpa using(h5 g' hg).2.2⟩⟩
 obtain⟨q1,q2⟩:=h2
 refine⟨q1,?_⟩
 rcases q2 with q2|⟨k,cap,cur,e1,e2,e3,e4⟩
 ·exact .inl q2
 ·refine .inr ⟨k,cap,cur,e1,e2,?_,e4⟩
  rw[heap_setCell_other _ _ _ _ (fun e=>ha (by rw[e1];exact congrArg some e))]
  exact e3
theorem GrowR.row(h:GrowR E T L w wr v l):∃A c,v=.slice A l.length c∧Row E (fun b=>w.heap.size≤b) wr A l.length c l:=by
 obtain⟨⟨vss,h1,h2,h3⟩,h4,h5⟩:=h
 obtain⟨A,c,rfl⟩:∃A c,v=.slice A l.length c:=by
  rcases h2.2 with⟨rfl,h0⟩|⟨g,cap,cur,rfl,_⟩
  ·exact⟨none,0,by rw[h0]⟩
  ·exact⟨_,_,rfl⟩
 exact⟨A,c,rfl,ze9 h2 rfl h1 (fun g hg=>(h2.lt g hg).1) fun i u x hi hl=>E.mono (h3 i u x hi hl) fun b _ hS=>hS.1⟩
theorem GrowR.fresh{u:List Value}{x:α}{w1:World}(h:GrowR E T L w wr v l)(hx:Ext wr w1){B:Nat}(hB:wr.heap.size≤B)(hE:E.R (fun b=>B≤b) w' u x):E.R (zfJ w v L) w' u x:=by
 obtain⟨⟨vss,h1,h2,h3⟩,h4,h5⟩:=h
 refine E.mono hE fun b _ hb=>⟨Nat.le_trans h4.size (Nat.le_trans hB hb),fun e=>?_,fun e=>?_⟩
 ·have:=(h2.lt b e.symm).2
  omega
 ·have:=(h5 b e.symm).2.2
  omega
theorem GrowR.snoc{v':Value}{x:α}{u:List Value}(h:GrowR E T L w wr v l)(hx:E.R (zfJ w v L) wr u x)(ho:∀vss,wr.ownsRow w.heap.size T E.k v l.length vss→w'.ownsRow w.heap.size T E.k v' (l.length+1) (vss++u))(hg:wr.grownBy w' v.ownBlock)
 (hb:v'.ownBlock=v.ownBlock∨v'.ownBlock=some wr.heap.size):GrowR E T L w w' v' (l++[x])∧Below w.heap.size wr w':=by
 obtain⟨⟨vss,h1,h2,h3⟩,h4,h5⟩:=h
 have hbw:Below w.heap.size wr w':=zbM h2 hg (zaz h4) (Nat.le_refl _)
 have hkeep:∀b,zfJ w v L b→b<wr.heap.size→w'.heap[b]?=wr.heap[b]?:=fun b hS hlt=>hg.block b hlt hS.2.1
 have hin:∀ b,zfJ w v L b→b<wr.heap.size→zfJ w v' L b:=fun b hS hlt=>⟨hS.1,fun e=>by
  rcases hb with hb|hb
  ·exact hS.2.1 (by rw[e,hb])
  ·rw [hb] at e;injection e with e;omega,hS.2.2⟩
 refine⟨⟨⟨vss++[u],by simp[h1],?_,fun i u' x' hi hl=>?_⟩,Below.trans h4 hbw,fun g hgL=>?_⟩,hbw⟩
 ·rw[List.length_append,List.length_cons,List.length_nil,List.flatten_append]
  simpa using ho _ h2
 ·rcases Nat.lt_or_ge i vss.length with hlt|hge
  ·rw[List.getElem?_append_left hlt] at hi
   rw[List.getElem?_append_left (by omega)] at hl
   exact zbe (h3 i u' x' hi hl) hkeep hin
  ·rw[List.getElem?_append_right hge] at hi
   rw[List.getElem?_append_right (by omega)] at hl
   have hz:i-vss.length=0:=by
    have:=(List.getElem?_eq_some_iff.1 hi).1
    simp at this
    omega
   rw[hz] at hi
   rw[←h1,hz] at hl
   simp at hi hl
   subst hi hl
   exact zbe hx hkeep hin
 ·obtain⟨ha,hb',hc⟩:=h5 g hgL
  refine⟨?_,hb',Nat.lt_of_lt_of_le hc hg.size⟩
  rcases hb with hb|hb
  ·rw[hb];exact ha
  ·rw[hb];intro e;injection e with e;omega
theorem Bx.grown{g:Nat}{U:TypeId}{cs:Array Value}{r:Option Nat}(h:Bx w wr g U cs)(hg:wr.grownBy w' r)(hne:r≠some g)(hb:Below w.heap.size wr w'):Bx w w' g U cs:=
 ⟨h.new,(hg.block g h.lt (fun e=>hne e.symm)).trans h.blk,Below.trans h.ext hb⟩
end
end
section
open Go.RowKit
set_option maxRecDepth 100000
abbrev Elem.part:Elem (List Ava):=Elem.slc Elem.ava
theorem zq8:(Tryz.prog.info? 168).map (fun i=>(i.zero,i.size,i.bytes))=some (some (.slice none 0 0),1,24):=by kernel_rfl
theorem zlT{w w0:World}{ops:Array Oper}{rest:List Oper}{o:Oper}{a:Act}{Q:Exit→Act→World→Prop}(hgd:o.guard=none)(s x:Operand)
 (ho:o.op=.call { callee:=.builtin .append,args:=#[s,x],argTypes:=#[163,163] }) {L:Option Nat} (v:Value) (l:List (List Ava)) (hs:a.eval s=v) (hg:GrowR Elem.part 168 L w0 w v l)
 {A:Option Addr} {n c:Nat} {t:TypeId} (y:List Ava) (hr:Row Elem.ava (zfJ w0 v L) w A n c y) (hx:a.eval x=.slice (some ⟨w.heap.size,0,none⟩) 1 1) (hb:l.length≤4000000)
 (h:∀v' w',GrowR Elem.part 168 L w0 w' v' (l++[y])→(w.alloc (.cells #[.slice A n c] t)).grownBy w' v.ownBlock→Below w0.heap.size (w.alloc (.cells #[.slice A n c] t)) w'→wpList Tryz.prog ops Q rest (a.put o.dst v') w') :
 wpList Tryz.prog ops Q (o::rest) a (w.alloc (.cells #[.slice A n c] t)):=by
 have hg':=hg.later (Ext.alloc w (.cells #[.slice A n c] t))
 have hg2:=hg'
 obtain⟨⟨vss,h1,h2,h3⟩,h4,h5⟩:=hg'
 refine wpList_plain hgd fun _ hK=>?_
 refine zbN s x 163 ho w0.heap.size 168 (.slice none 0 0) 1 24 Tryz.underlying163 zq8 rfl (by decide) v l.length vss.flatten hs h2 _ 1 1 [.slice A n c] hx rfl (.inr ⟨_,0,rfl,fun j u hj=>by rw[Nat.zero_add,zc2];simpa using hj⟩)
  (fun u hu=>by simp at hu;subst hu;rfl) (by simp[maxLen];omega) (by omega) (zaz h4) ?_
 intro v' w' q1 q2 q3
 have hE:Elem.part.R (zfJ w0 v L) (w.alloc (.cells #[.slice A n c] t)) [.slice A n c] y:=⟨A,n,c,rfl,hr.ext (Ext.alloc _ _)⟩
 obtain ⟨k1,k2⟩:=hg2.snoc (v':=v') (w':=w') hE (fun vs' hvs'=>by
  have e:vs'=vss.flatten:=by
   have e1:=hvs'.2
   have e2:=h2.2
   rcases e1 with⟨_,z1⟩|⟨g,cap,cur,e3,e4,e5,e6,e7,e8,e9⟩
   ·have z2:=hvs'.1
    have z3:=h2.1
    rw[z1,Nat.zero_mul] at z2 z3
    rw[List.eq_nil_of_length_eq_zero z2,List.eq_nil_of_length_eq_zero z3]
   ·rcases e2 with⟨z0,z1⟩|⟨g',cap',cur',f3,f4,f5,f6,f7,f8,f9⟩
    ·rw[e3] at z0;cases z0
    ·rw[e3] at f3
     injection f3 with f3 _ f3'
     injection f3 with f3
     injection f3 with f3
     subst f3
     rw[e5] at f5
     injection f5 with f5
     injection f5 with f5
     subst f5
     rw[←e9,←f9]
  rw[e]
  exact q1) q2 q3
 exact hK _ _ (h v' w' k1 q2 k2)
theorem zoL:(Tryz.prog.info? 149).map (fun i=>(i.zero,i.size,i.bytes))=some (some (.slice none 0 0),1,24):=by kernel_rfl
theorem zjF{w w0:World}{ops:Array Oper}{rest:List Oper}{o:Oper}{a:Act}{Q:Exit→Act→World→Prop}(hgd:o.guard=none)(s x:Operand)
 (ho:o.op=.call { callee:=.builtin .append,args:=#[s,x],argTypes:=#[146,146] }) {L:Option Nat} (v:Value) (l:List (List Ava)) (hs:a.eval s=v) (hg:GrowR Elem.part 149 L w0 w v l)
 {A:Option Addr} {n c:Nat} {t:TypeId} (y:List Ava) (hr:Row Elem.ava (zfJ w0 v L) w A n c y) (hx:a.eval x=.slice (some ⟨w.heap.size,0,none⟩) 1 1) (hb:l.length≤4000000)
 (h:∀v' w',GrowR Elem.part 149 L w0 w' v' (l++[y])→(w.alloc (.cells #[.slice A n c] t)).grownBy w' v.ownBlock→Below w0.heap.size (w.alloc (.cells #[.slice A n c] t)) w'→wpList Tryz.prog ops Q rest (a.put o.dst v') w') :
 wpList Tryz.prog ops Q (o::rest) a (w.alloc (.cells #[.slice A n c] t)):=by
 have hg':=hg.later (Ext.alloc w (.cells #[.slice A n c] t))
 have hg2:=hg'
 obtain⟨⟨vss,h1,h2,h3⟩,h4,h5⟩:=hg'
 refine wpList_plain hgd fun _ hK=>?_
 refine zbN s x 146 ho w0.heap.size 149 (.slice none 0 0) 1 24 Tryz.underlying146 zoL rfl (by decide) v l.length vss.flatten hs h2 _ 1 1 [.slice A n c] hx rfl (.inr ⟨_,0,rfl,fun j u hj=>by rw[Nat.zero_add,zc2];simpa using hj⟩)
  (fun u hu=>by simp at hu;subst hu;rfl) (by simp[maxLen];omega) (by omega) (zaz h4) ?_
 intro v' w' q1 q2 q3
 have hE:Elem.part.R (zfJ w0 v L) (w.alloc (.cells #[.slice A n c] t)) [.slice A n c] y:=⟨A,n,c,rfl,hr.ext (Ext.alloc _ _)⟩
 obtain ⟨k1,k2⟩:=hg2.snoc (v':=v') (w':=w') hE (fun vs' hvs'=>by
  have e:vs'=vss.flatten:=by
   have e1:=hvs'.2
   have e2:=h2.2
   rcases e1 with⟨_,z1⟩|⟨g,cap,cur,e3,e4,e5,e6,e7,e8,e9⟩
   ·have z2:=hvs'.1
    have z3:=h2.1
    rw[z1,Nat.zero_mul] at z2 z3
    rw[List.eq_nil_of_length_eq_zero z2,List.eq_nil_of_length_eq_zero z3]
   ·rcases e2 with⟨z0,z1⟩|⟨g',cap',cur',f3,f4,f5,f6,f7,f8,f9⟩
    ·rw[e3] at z0;cases z0
    ·rw[e3] at f3
     injection f3 with f3 _ f3'
     injection f3 with f3
     injection f3 with f3
     subst f3
     rw[e5] at f5
     injection f5 with f5
     injection f5 with f5
     subst f5
     rw[←e9,←f9]
  rw[e]
  exact q1) q2 q3
 exact hK _ _ (h v' w' k1 q2 k2)
end
section
open Go.RowKit
structure Ent where
 name:ByteArray
 atts:List Att
def Elem.ent:Elem Ent:=
 ⟨2,by decide,fun S w v a=>∃A n c,v=[.string a.name,.slice A n c]∧Row Elem.att S w A n c a.atts,fun⟨_,_,_,h,_⟩=>by rw[h];rfl,fun⟨A,n,c,h,hr⟩ hk=>⟨A,n,c,h,hr.same hk⟩,fun⟨A,n,c,h,hr⟩ hs=>⟨A,n,c,h,hr.mono hs⟩⟩
end
section
theorem zpj(c:UInt8):loB (loB c)=loB c:=by
 unfold loB
 by_cases h:65≤c.toNat∧c.toNat≤90
 ·rw[if_pos h]
  have e:(UInt8.ofNat (c.toNat+32)).toNat=c.toNat+32:=by rw[UInt8.toNat_ofNat'];omega
  rw[if_neg (by rw[e];omega)]
 ·rw[if_neg h,if_neg h]
theorem zcQ:∀(l cur:List UInt8),(32:UInt8) ∉ cur→∀x∈zaB cur l,(32:UInt8) ∉ x
 |[],cur,h,x,hx=>by simp[zaB] at hx;rw[hx];exact h
 |c::t,cur,h,x,hx=>by
  unfold zaB at hx
  by_cases hc:c=32
  ·rw[if_pos hc] at hx
   rcases List.mem_cons.1 hx with e|e
   ·rw[e];exact h
   ·exact zcQ t [] (by simp) x e
  ·rw[if_neg hc] at hx
   exact zcQ t _ (by simp[h,Ne.symm hc]) x hx
theorem zd9:∀(l cur:List UInt8),∀x∈zaB cur l,∀b∈x,b∈cur∨b∈l
 |[],cur,x,hx,b,hb=>by simp[zaB] at hx;rw[hx] at hb;exact .inl hb
 |c::t,cur,x,hx,b,hb=>by
  unfold zaB at hx
  by_cases hc:c=32
  ·rw[if_pos hc] at hx
   rcases List.mem_cons.1 hx with e|e
   ·rw[e] at hb;exact .inl hb
   ·rcases zd9 t [] x e b hb with h|h
    ·cases h
    ·exact .inr (by simp[h])
  ·rw[if_neg hc] at hx
   rcases zd9 t _ x hx b hb with h|h
   ·rcases List.mem_append.1 h with h|h
    ·exact .inl h
    ·simp at h;exact .inr (by simp[h])
   ·exact .inr (by simp[h])
theorem zh8:∀ws:List (List UInt8),ws≠[]→(∀x∈ws,(32:UInt8) ∉ x)→zaB [] (zaD ws)=ws
 |[],h,_=>absurd rfl h
 |[x],_,h=>by simp only[zaD];rw[zei x [] (h x (by simp))];rfl
 |x::y::t,_,h=>by
  simp only[zaD]
  rw[zeX x [] _ (h x (by simp)),zh8 (y::t) (by simp) (fun z hz=>h z (by simp[hz]))]
  rfl
theorem zhR(x:List UInt8):∀ws:List (List UInt8),(zaD (x::ws)).length≤x.length+1+(zaD ws).length
 |[]=>by simp[zaD]
 |y::t=>by simp[zaD];omega
theorem ze5:∀(l cur:List UInt8),(zaD ((zaB cur l).filter fun x=>decide (x≠[]))).length≤cur.length+l.length
 |[],cur=>by
  simp only[zaB]
  by_cases h:cur=[]
  ·simp[h,zaD]
  ·simp[h,zaD]
 |c::t,cur=>by
  unfold zaB
  by_cases hc:c=32
  ·rw[if_pos hc]
   have ih:=ze5 t []
   simp only[List.length_nil] at ih
   by_cases h:cur=[]
   ·rw[List.filter_cons,if_neg (by simp[h])]
    simp only[List.length_cons];omega
   ·rw[List.filter_cons,if_pos (by simp[h])]
    have:=zhR cur ((zaB [] t).filter fun x=>decide (x≠[]))
    simp only[List.length_cons];omega
  ·rw[if_neg hc]
   have ih:=ze5 t (cur++[c])
   simp only[List.length_append,List.length_cons,List.length_nil] at ih ⊢
   omega
theorem zlP{v u:List UInt8}(h:zhm v=some u):zhm u=some u∧u≠[]∧u.length≤v.length:=by
 unfold zhm at h
 simp only at h
 split at h
 ·cases h
 ·rename_i hn
  injection h with h
  obtain⟨ws,hws⟩:∃ws,ws=zaU (zas v):=⟨_,rfl⟩
  rw[←hws] at h hn
  have hlen:u.length≤v.length:=by
   have:=ze5 (zas v) []
   rw[←h,hws]
   simp only[List.length_nil,Nat.zero_add] at this
   have e:(zas v).length=v.length:=by simp[zas]
   rw[e] at this
   exact this
  have hne:ws≠[]:=fun e=>hn (.inl (by rw[e];rfl))
  have h1:∀x∈ws,x≠[]∧(32:UInt8) ∉ x∧∀b∈x,loB b=b:=by
   intro x hx
   rw[hws] at hx
   obtain⟨hm,hx0⟩:=List.mem_filter.1 hx
   refine⟨by simpa using hx0,zcQ _ _ (by simp) x hm,fun b hb=>?_⟩
   rcases zd9 _ _ x hm b hb with e|e
   ·cases e
   ·obtain⟨c,_,rfl⟩:=List.mem_map.1 e
    exact zpj c
  have hlo:zas u=u:=by
   unfold zas
   conv=>rhs;rw[←List.map_id u]
   refine List.map_congr_left fun b hb=>?_
   show loB b=b
   by_cases hb32:b=32
   ·rw[hb32];rfl
   ·rw[←h] at hb
    obtain⟨x,hx,hbx⟩:=(zfH b hb32 ws).1 hb
    exact(h1 x hx).2.2 b hbx
  have hw:zaU u=ws:=by
   unfold zaU
   rw[←h,zh8 ws hne (fun x hx=>(h1 x hx).2.1),List.filter_eq_self]
   intro x hx
   exact decide_eq_true (h1 x hx).1
  refine⟨?_,fun e=>hn (.inl (by rw[h,e])),hlen⟩
  unfold zhm
  simp only[hlo,hw]
  rw[if_neg hn,h]
theorem zhn{k:Nat}{v u:List UInt8}(h:zcs k v=some u):zcs k u=some u:=by
 unfold zcs at h
 split at h
 ·cases h
 rename_i h0
 by_cases h1:k=1
 ·rw[if_pos h1] at h
  obtain⟨a,b,c⟩:=zlP h
  unfold zcs
  rw[if_neg (by rintro(e|e);exact b e;exact h0 (.inr (by omega))),if_pos h1,a]
 ·rw[if_neg h1] at h
  by_cases h3:k=3
  ·rw[if_pos h3] at h
   split at h
   ·rename_i hi
    injection h with h
    subst h
    unfold zcs
    rw[if_neg h0,if_neg h1,if_pos h3,if_pos hi]
   ·cases h
  ·rw[if_neg h3] at h;cases h
theorem zjf:∀n<16,hexB (zbp n)=some n∧zbq (zbp n)=false∧zbp n≠35∧zbp n≠61∧zbp n≠32∧zbp n≠92∧zbp n≠44∧zbp n≠43:=by decide
theorem znF{b:Bool}{t:List UInt8}:(zaA b t).isEmpty=t.isEmpty:=by
 cases t with
 |nil=>rfl
 |cons c t=>
  simp only[zaA]
  split
  ·rfl
  ·split<;>rfl
theorem zii:∀(v:List UInt8) (b:Bool) (acc:List UInt8),readF acc (zaA b v)=some (acc++v)
 |[],b,acc=>by simp[zaA,readF]
 |c::t,b,acc=>by
  have ih:=fun a=>zii t false a
  by_cases h1:((c==32&&(b || t.isEmpty)) || (c==35&&b) || zbq c)=true
  ·rw[zaA,if_pos h1]
   have h2:(zbq c || c==35 || c==61 || c==32)=true:=by
    simp only[Bool.or_eq_true,Bool.and_eq_true] at h1 ⊢
    rcases h1 with(h1|h1)|h1
    ·exact .inr h1.1
    ·exact .inl (.inl (.inr h1.1))
    ·exact .inl (.inl (.inl h1))
   show readF acc (92::c::zaA false t)=_
   rw[readF.eq_def]
   simp only[if_true,h2,ih]
   simp
  ·rw[zaA,if_neg h1]
   by_cases h3:c.toNat<32∨126<c.toNat
   ·rw[if_pos h3]
    have hc:=c.toNat_lt
    obtain⟨d1,d2,d3,d4,d5,-,-,-⟩:=zjf (c.toNat / 16) (by omega)
    obtain⟨e1,-⟩:=zjf (c.toNat % 16) (by omega)
    show readF acc (92::zbp (c.toNat / 16)::zbp (c.toNat % 16)::zaA false t)=_
    rw[readF.eq_def]
    have h4:(zbq (zbp (c.toNat / 16)) || zbp (c.toNat / 16)==35 || zbp (c.toNat / 16)==61 || zbp (c.toNat / 16)==32)=false:=by simp[d2,d3,d4,d5]
    simp only[if_true,h4,d1,e1,ih,Bool.false_eq_true,if_false]
    have h5:UInt8.ofNat (16 * (c.toNat / 16)+c.toNat % 16)=c:=by
     rw[show 16 * (c.toNat / 16)+c.toNat % 16=c.toNat by omega]
     exact UInt8.ofNat_toNat
    rw[h5]
    simp
   ·rw[if_neg h3]
    show readF acc (c::zaA false t)=_
    have hc92:c≠92:=by
     intro e
     subst e
     exact h1 (by simp[zbq])
    have hc0:c≠0:=by
     intro e
     subst e
     exact h3 (.inl (by decide))
    have hs:zbq c=false:=by
     cases hs:zbq c with
     |false=>rfl
     |true=>exact absurd (by rw[hs];simp) h1
    have hb:(c==32&&(zaA false t).isEmpty)=false:=by
     rw[znF]
     cases hq:(c==32&&t.isEmpty) with
     |false=>rfl
     |true=>
      rw[Bool.and_eq_true] at hq
      exact absurd (by rw[hq.1,hq.2];simp) h1
    rw[readF.eq_def]
    simp only[if_neg hc92]
    rw[if_neg (by rw[hs,hb];simp[hc0]),ih]
    simp
theorem zlk{v:List UInt8}:za2 (zaA true v)=some v:=by
 unfold za2
 have hh:¬((zaA true v).head?=some 32∨(zaA true v).head?=some 35):=by
  cases v with
  |nil=>simp[zaA]
  |cons c t=>
   by_cases h1:((c==32&&(true || t.isEmpty)) || (c==35&&true) || zbq c)=true
   ·rw[zaA,if_pos h1];simp
   ·rw[zaA,if_neg h1]
    have h32:c≠32:=by rintro rfl;exact h1 (by simp)
    have h35:c≠35:=by rintro rfl;exact h1 (by simp)
    split
    ·simp
    ·simp[h32,h35]
 rw[if_neg hh,zii]
 rfl
def clos(sep:UInt8):List UInt8→Bool
 |[]=>true
 |c::t=>
  if c=sep then false
  else if c=92 then
   match t with
   |[]=>false
   |_::t=>clos sep t
  else clos sep t
theorem zcK(sep:UInt8):∀(n:Nat) (x:List UInt8),x.length≤n→clos sep x=true→∀cur r,splitF sep cur (x++r)=splitF sep (cur++x) r
 |_,[],_,_,cur,r=>by simp
 |0,c::t,hn,_,_,_=>by simp at hn
 |n+1,c::t,hn,h,cur,r=>by
  simp only[List.length_cons] at hn
  rw[clos.eq_def] at h
  simp only at h
  by_cases h1:c=sep
  ·rw[if_pos h1] at h;cases h
  rw[if_neg h1] at h
  by_cases h2:c=92
  ·rw[if_pos h2] at h
   cases t with
   |nil=>cases h
   |cons d t=>
    simp only[List.length_cons] at hn
    show splitF sep cur (c::d::(t++r))=_
    rw[splitF.eq_def]
    simp only[if_neg h1,if_pos h2]
    rw[zcK sep n t (by omega) h,h2]
    simp
  ·rw[if_neg h2] at h
   show splitF sep cur (c::(t++r))=_
   rw[splitF.eq_def]
   simp only[if_neg h1,if_neg h2]
   rw[zcK sep n t (by omega) h]
   simp
theorem ze3(sep:UInt8):∀(n:Nat) (x y:List UInt8),x.length≤n→clos sep x=true→clos sep y=true→clos sep (x++y)=true
 |_,[],y,_,_,h=>h
 |0,c::t,y,hn,_,_=>by simp at hn
 |n+1,c::t,y,hn,h,k=>by
  simp only[List.length_cons] at hn
  rw[clos.eq_def] at h
  simp only at h
  by_cases h1:c=sep
  ·rw[if_pos h1] at h;cases h
  rw[if_neg h1] at h
  by_cases h2:c=92
  ·rw[if_pos h2] at h
   cases t with
   |nil=>cases h
   |cons d t=>
    simp only[List.length_cons] at hn
    show clos sep (c::d::(t++y))=true
    rw[clos.eq_def]
    simp only[if_neg h1,if_pos h2]
    exact ze3 sep n t y (by omega) h k
  ·rw[if_neg h2] at h
   show clos sep (c::(t++y))=true
   rw[clos.eq_def]
   simp only[if_neg h1,if_neg h2]
   exact ze3 sep n t y (by omega) h k
theorem zmx{sep:UInt8}{x y:List UInt8}(h:clos sep x=true)(k:clos sep y=true):clos sep (x++y)=true:=ze3 sep _ x y (Nat.le_refl _) h k
theorem zgH{sep c:UInt8}{y:List UInt8}(h1:c≠sep)(h2:c≠92)(k:clos sep y=true):clos sep (c::y)=true:=by
 rw[clos.eq_def]
 simp only[if_neg h1,if_neg h2]
 exact k
theorem zl5{sep c:UInt8}{y:List UInt8}(h1:(92:UInt8)≠sep)(k:clos sep y=true):clos sep (92::c::y)=true:=by
 rw[clos.eq_def]
 simp only[if_neg h1,if_true]
 exact k
theorem zh9{sep:UInt8}(hs:sep=44∨sep=43):∀(v:List UInt8) (b:Bool),clos sep (zaA b v)=true
 |[],b=>rfl
 |c::t,b=>by
  have ih:=zh9 hs t false
  have h92:(92:UInt8)≠sep:=by rcases hs with rfl|rfl<;>decide
  by_cases h1:((c==32&&(b || t.isEmpty)) || (c==35&&b) || zbq c)=true
  ·rw[zaA,if_pos h1]
   exact zl5 h92 ih
  ·rw[zaA,if_neg h1]
   by_cases h3:c.toNat<32∨126<c.toNat
   ·rw[if_pos h3]
    have hc:=c.toNat_lt
    obtain⟨-,-,-,-,-,e1,e2,e3⟩:=zjf (c.toNat % 16) (by omega)
    exact zl5 h92 (zgH (by rcases hs with rfl|rfl<;>assumption) e1 ih)
   ·rw[if_neg h3]
    have hs':zbq c=false:=by
     cases hq:zbq c with
     |false=>rfl
     |true=>exact absurd (by rw[hq];simp) h1
    refine zgH ?_ ?_ ih
    ·rintro rfl
     rcases hs with rfl|rfl<;>exact absurd hs' (by decide)
    ·rintro rfl
     exact absurd hs' (by decide)
theorem zmn:∀p∈typTab,clos 44 p.1=true∧clos 43 p.1=true∧(61:UInt8) ∉ p.1∧p.1≠[]:=by decide
theorem zo0(n:List UInt8):zat n∈typTab∨zat n=([],0):=by
 unfold zat
 cases h:typTab.find? (fun p=>zas p.1==zas n) with
 |none=>exact .inr rfl
 |some p=>exact .inl (List.mem_of_find?_eq_some h)
def avaT(a:Ava):List UInt8:=a.type++61::zaA true a.val
theorem zjq{a:Ava}(h:zbV a=true):zat a.type∈typTab∧(zat a.type).1=a.type∧(zat a.type).2≠0∧(zcs (zat a.type).2 a.val).isSome=true:=by
 unfold zbV at h
 rw[Bool.and_eq_true,Bool.and_eq_true,Bool.or_eq_true,decide_eq_true_eq,decide_eq_true_eq,decide_eq_true_eq] at h
 obtain⟨⟨h1,h2⟩,h3⟩:=h
 refine⟨?_,h1,by omega,h3⟩
 rcases zo0 a.type with h|h
 ·exact h
 ·rw[h] at h2;omega
theorem zfo{a:Ava}(h:zbV a=true){sep:UInt8}(hs:sep=44∨sep=43):clos sep (avaT a)=true:=by
 obtain⟨h1,h2,-,-⟩:=zjq h
 have h3:=zmn _ h1
 rw[h2] at h3
 refine zmx ?_ (zgH ?_ (by decide) (zh9 hs _ _))
 ·rcases hs with rfl|rfl
  ·exact h3.1
  ·exact h3.2.1
 ·rcases hs with rfl|rfl<;>decide
theorem zot{a:Ava}(h:zbV a=true):avaB (avaT a)=some a:=by
 obtain⟨h1,h2,h3,-⟩:=zjq h
 have h4:=zmn _ h1
 rw[h2] at h4
 unfold avaB avaT
 rw[zfd _ _ h4.2.2.1]
 simp only
 rw[if_neg h3,zlk,h2]
 rfl
theorem zgl:∀l:List Ava,l≠[]→(∀a∈l,zbV a=true)→splitF 43 [] (zaZ l)=l.map avaT
 |[],h,_=>absurd rfl h
 |[a],_,h=>by
  have hc:=zcK 43 _ (avaT a) (Nat.le_refl _) (zfo (h a (by simp)) (.inr rfl)) [] []
  rw[List.append_nil,List.nil_append] at hc
  show splitF 43 [] (avaT a)=_
  rw[hc]
  rfl
 |a::b::t,_,h=>by
  have hc:=zcK 43 _ (avaT a) (Nat.le_refl _) (zfo (h a (by simp)) (.inr rfl)) [] (43::zaZ (b::t))
  have ih:=zgl (b::t) (by simp) (fun x hx=>h x (by simp[hx]))
  have e:zaZ (a::b::t)=avaT a++43::zaZ (b::t):=by simp[zaZ,avaT]
  rw[e,hc,List.nil_append,splitF.eq_def]
  simp only[if_true]
  rw[ih]
  rfl
theorem zeM:∀l:List Ava,(∀a∈l,zbV a=true)→clos 44 (zaZ l)=true
 |[],_=>rfl
 |[a],h=>zfo (h a (by simp)) (.inl rfl)
 |a::b::t,h=>by
  have e:zaZ (a::b::t)=avaT a++43::zaZ (b::t):=by simp[zaZ,avaT]
  rw[e]
  exact zmx (zfo (h a (by simp)) (.inl rfl)) (zgH (by decide) (by decide) (zeM (b::t) (fun x hx=>h x (by simp[hx]))))
theorem zeQ:∀l:List (List UInt8),l≠[]→(∀x∈l,clos 44 x=true)→splitF 44 [] (zaY l)=l
 |[],h,_=>absurd rfl h
 |[x],_,h=>by
  have hc:=zcK 44 _ x (Nat.le_refl _) (h x (by simp)) [] []
  rw[List.append_nil,List.nil_append] at hc
  show splitF 44 [] x=_
  rw[hc]
  rfl
 |x::y::t,_,h=>by
  have hc:=zcK 44 _ x (Nat.le_refl _) (h x (by simp)) [] (44::zaY (y::t))
  have ih:=zeQ (y::t) (by simp) (fun z hz=>h z (by simp[hz]))
  show splitF 44 [] (x++44::zaY (y::t))=_
  rw[hc,List.nil_append,splitF.eq_def]
  simp only[if_true]
  rw[ih]
theorem zeP{l:List Ava}(h:l.all zbV=true):za8 (za8 l)=za8 l∧(za8 l).all zbV=true:=by
 rw[List.all_eq_true] at h
 constructor
 ·unfold za8
  rw[List.map_map]
  refine List.map_congr_left fun a ha=>?_
  obtain⟨-,-,-,h4⟩:=zjq (h a ha)
  obtain⟨u,hu⟩:=Option.isSome_iff_exists.1 h4
  simp only[Function.comp,hu,Option.getD_some,zhn hu]
 ·rw[List.all_eq_true]
  intro b hb
  obtain⟨a,ha,rfl⟩:=List.mem_map.1 hb
  have hk:=h a ha
  obtain⟨-,-,-,h4⟩:=zjq hk
  obtain⟨u,hu⟩:=Option.isSome_iff_exists.1 h4
  unfold zbV at hk ⊢
  simp only[hu,Option.getD_some,zhn hu] at hk ⊢
  exact hk
theorem zgi:∀l:List Ava,zb4 (za8 l)=zb4 l
 |[]=>rfl
 |[a]=>rfl
 |a::b::t=>by
  have ih:=zgi (b::t)
  unfold za8 at ih ⊢
  simp only[List.map_cons,zb4] at ih ⊢
  rw[ih]
theorem zcf{l:List Ava}(h:zan l=true):zan (za8 l)=true:=by
 unfold zan at h ⊢
 rw[Bool.and_eq_true,Bool.and_eq_true] at h
 rw[zgi,h.2,(zeP h.1.2).2,show(za8 l).length=l.length by simp[za8],h.1.1]
 rfl
theorem zkW{l:List Ava}(h:zan l=true):zcx l=l:=by
 unfold zan at h
 rw[Bool.and_eq_true,Bool.and_eq_true,Bool.and_eq_true,decide_eq_true_eq,decide_eq_true_eq] at h
 obtain⟨⟨⟨h1,h2⟩,-⟩,h4⟩:=h
 match l,h2 with
 |[],_=>rfl
 |[a],_=>rfl
 |[a,b],_=>
  simp only[zb4,Bool.and_true] at h4
  simp[zcx,insA,h4]
 |[a,b,c],_=>
  simp only[zb4,Bool.and_true,Bool.and_eq_true] at h4
  have h5:=zdt _ _ _ h4.1 h4.2
  simp[zcx,insA,h4.1,h4.2,h5]
theorem zfe{α β:Type}{f:α→Option β}{g:β→α}:∀{l:List β},(∀x∈l,f (g x)=some x)→(l.map g).mapM f=some l
 |[],_=>rfl
 |x::t,h=>by
  rw[List.map_cons,List.mapM_cons,h x (by simp),zfe (fun y hy=>h y (by simp[hy]))]
  rfl
theorem zgX{l:List Ava}(h:zan l=true):zbk (zaZ l)=some l:=by
 have hall:∀a∈l,zbV a=true:=by
  unfold zan at h
  rw[Bool.and_eq_true,Bool.and_eq_true] at h
  exact List.all_eq_true.1 h.1.2
 have hne:l≠[]:=by
  rintro rfl
  cases h
 unfold zbk
 rw[zgl l hne hall,zfe (fun a ha=>zot (hall a ha))]
 simp only
 rw[zkW h,if_pos h]
theorem zfE{s:List UInt8}{l:List Ava}(h:zbk s=some l):zan l=true:=by
 unfold zbk at h
 cases hm:(splitF 43 [] s).mapM avaB with
 |none=>rw[hm] at h;cases h
 |some k=>
  rw[hm] at h
  simp only at h
  split at h
  ·rename_i hf
   injection h with h
   rw[←h];exact hf
  ·cases h
theorem zgD{α β:Type}{f:α→Option β}:∀{x:List α} {l:List β},x.mapM f=some l→(∀y∈l,∃a∈x,f a=some y)∧l.length=x.length
 |[],l,h=>by simp at h;subst h;simp
 |a::t,l,h=>by
  rw[List.mapM_cons] at h
  cases ha:f a with
  |none=>rw[ha] at h;cases h
  |some v=>
   rw[ha] at h
   cases hb:t.mapM f with
   |none=>rw[hb] at h;cases h
   |some w=>
    rw[hb] at h
    cases h
    obtain⟨h1,h2⟩:=zgD hb
    refine⟨fun y hy=>?_,by simp[h2]⟩
    rcases List.mem_cons.1 hy with e|e
    ·exact⟨a,by simp,by rw[e];exact ha⟩
    ·obtain⟨c,hc,hf⟩:=h1 y e
     exact⟨c,by simp[hc],hf⟩
theorem zmi{x:List UInt8}{t:List (List UInt8)}(h:x≠[]):zaY (x::t)≠[]:=by
 cases t with
 |nil=>exact h
 |cons y t=>simp[zaY]
theorem zka{l:List Ava}(h:l≠[]):zaZ l≠[]:=by
 match l,h with
 |[a],_=>simp[zaZ]
 |a::b::t,_=>simp[zaZ]
theorem zlz{s:List UInt8}{l:List (List UInt8)}(h:zak s=.ok l):zak (zaY l)=.ok l:=by
 unfold zak at h
 by_cases h1:1000<s.length
 ·rw[if_pos h1] at h;cases h
 rw[if_neg h1] at h
 by_cases h2:s=[]
 ·rw[if_pos h2] at h
  injection h with h
  subst h
  rfl
 rw[if_neg h2] at h
 by_cases h3:12<(splitF 44 [] s).length
 ·rw[if_pos h3] at h;cases h
 rw[if_neg h3] at h
 cases hm:(splitF 44 [] s).mapM zbk with
 |none=>rw[hm] at h;cases h
 |some k=>
  rw[hm] at h
  simp only at h
  by_cases h4:1000<(zaY (k.map fun p=>zb8 (za8 p))).length
  ·rw[if_pos h4] at h;cases h
  rw[if_neg h4] at h
  injection h with h
  obtain⟨hk1,hk2⟩:=zgD hm
  have hlen:=(zbw 44 s.length [] s (Nat.le_refl _)).2.1
  have hf:∀p∈k,zan p=true:=fun p hp=>by obtain⟨a,-,ha⟩:=hk1 p hp;exact zfE ha
  have hl:l=k.map fun p=>zaZ (za8 p):=by
   rw[←h]
   refine List.map_congr_left fun p hp=>?_
   unfold zb8
   rw[if_pos (zcf (hf p hp))]
  have hn:∀q∈k.map za8,zan q=true:=by
   intro q hq
   obtain⟨p,hp,rfl⟩:=List.mem_map.1 hq
   exact zcf (hf p hp)
  have hl2:l=(k.map za8).map zaZ:=by rw[hl,List.map_map];rfl
  have hkne:k≠[]:=by rintro rfl;simp at hk2;omega
  have hlne:l≠[]:=by rw[hl];simp[hkne]
  have hcl:∀x∈l,clos 44 x=true:=by
   intro x hx
   rw[hl2] at hx
   obtain⟨q,hq,rfl⟩:=List.mem_map.1 hx
   have:=hn q hq
   unfold zan at this
   rw[Bool.and_eq_true,Bool.and_eq_true] at this
   exact zeM q (List.all_eq_true.1 this.1.2)
  have hsp:=zeQ l hlne hcl
  have hjn:zaY l≠[]:=by
   cases hk:l with
   |nil=>exact absurd hk hlne
   |cons x t=>
    refine zmi ?_
    have hx:x∈(k.map za8).map zaZ:=by rw[←hl2,hk];simp
    obtain⟨q,hq,rfl⟩:=List.mem_map.1 hx
    exact zka (by rintro rfl;have:=hn _ hq;cases this)
  unfold zak
  rw[if_neg (by rw[←h];exact h4),if_neg hjn,hsp,if_neg (by rw[hl,List.length_map,hk2];exact h3)]
  have hmm:l.mapM zbk=some (k.map za8):=by
   rw[hl2]
   exact zfe fun q hq=>zgX (hn q hq)
  rw[hmm]
  have e2:(k.map za8).map (fun p=>zb8 (za8 p))=l:=by
   rw[hl2]
   refine List.map_congr_left fun q hq=>?_
   obtain⟨p,hp,rfl⟩:=List.mem_map.1 hq
   have hfp:=hf p hp
   have ha:p.all zbV=true:=by
    unfold zan at hfp
    rw[Bool.and_eq_true,Bool.and_eq_true] at hfp
    exact hfp.1.2
   rw[(zeP ha).1]
   unfold zb8
   rw[if_pos (zcf hfp)]
  simp only[e2]
  rw[if_neg (by rw[←h];exact h4)]
end
section
open Go.RowKit
set_option maxRecDepth 100000
def BoolSays(w:World)(e:Ending)(w':World):Prop:=∃b:Bool,e=.returned (.bool b)∧Ext w w'
theorem BoolSays.of{w w':World}{e:Ending}{b:Bool}(h:e=.returned (.bool b))(hx:Ext w w'):BoolSays w e w':=⟨b,h,hx⟩
theorem zjO{S:Nat→Prop}{A:Option Addr}{n c:Nat}{w:World}{l:List Ent}(h:Row Elem.ent S w A n c l):Calls Tryz.prog 23 #[.slice A n c] w (BoolSays w):=by
 have HR:=hid h
 have hn:n≤9223372036854775807:=by have:=h.cap;have:=h.most;simp only[maxLen] at this;omega
 clear h
 go_enter Tryz.func23,Tryz.ntmps23
 go_wp2
 go_loopw [3,9] (fun z i wr=>∃(j:Nat) (y:Int),j≤n∧i=.int .i64 j∧z=.int .i64 y∧Hid (Ext w wr)) (fun _ i _=>n-(intOf i).toNat)
 case atStart=>exact⟨0,0,by omega,rfl,rfl,Ext.refl _⟩
 case round=>
  obtain⟨j,y,hj,rfl,rfl,hx⟩:=hrel
  by_cases hlt:j<n
  ·obtain⟨b1,o1,v1,x1,rfl,g1,-,⟨A1,n1,c1,rfl,r1⟩,q1⟩:=(HR.out.ext hx.out).at_ hlt
   have e10:=q1 0 _ rfl
   have e11:=q1 1 _ rfl
   simp only[Elem.ent,Nat.add_zero] at e10 e11
   have R1:=hid r1
   have hn1:n1≤9223372036854775807:=by have:=r1.cap;have:=r1.most;simp only[maxLen] at this;omega
   clear q1 g1 r1
   go_wp2
   obtain⟨wo,hwo⟩:∃x,x=wr:=⟨_,rfl⟩
   subst hwo
   go_loopw [3,28] (fun z i wr=>∃(k:Nat) (y:Int),k≤n1∧i=.int .i64 k∧z=.int .i64 y∧wr=wo) (fun _ i _=>n1-(intOf i).toNat)
   case atStart=>exact⟨0,_,by omega,rfl,rfl,rfl⟩
   case round=>
    obtain⟨k,y2,hk,rfl,rfl,rfl⟩:=hrel
    by_cases hlt2:k<n1
    ·obtain⟨b2,o2,v2,x2,rfl,g2,-,⟨A2,n2,c2,rfl,r2⟩,q2⟩:=R1.out.at_ hlt2
     have e20:=q2 0 _ rfl
     have e21:=q2 1 _ rfl
     simp only[Elem.att,Nat.add_zero] at e20 e21
     have R2:=hid r2
     have hn2:n2≤9223372036854775807:=by have:=r2.cap;have:=r2.most;simp only[maxLen] at this;omega
     clear q2 g2 r2
     go_wp2
     obtain⟨wp,hwp⟩:∃x,x=wr:=⟨_,rfl⟩
     subst hwp
     go_loopw [3,54] (fun z i wr=>∃(p:Nat) (y:Int),p≤n2∧i=.int .i64 p∧z=.int .i64 y∧wr=wp) (fun _ i _=>n2-(intOf i).toNat)
     case atStart=>exact⟨0,_,by omega,rfl,rfl,rfl⟩
     case round=>
      obtain⟨p,y3,hp,rfl,rfl,rfl⟩:=hrel
      by_cases hlt3:p<n2
      ·obtain⟨b3,o3,rfl,c3⟩:=R2.out.str_cell (by omega)
       have e30:=c3 p hlt3
       clear c3
       generalize x2.vals[p]?.getD ByteArray.empty=s3 at*
       go_wp2
       exact⟨⟨p+1,_,by omega,by go_num,rfl,by first|rfl|trivial⟩,by simp[intOf];omega⟩
      ·obtain rfl:p=n2:=by omega
       go_wp2
       exact⟨⟨k+1,_,by omega,by go_num,rfl,by first|rfl|trivial⟩,by simp[intOf];omega⟩
    ·obtain rfl:k=n1:=by omega
     go_wp2
     all_goals first
      |(go_ret;exact BoolSays.of rfl (hx.out))
      |exact⟨⟨j+1,_,by omega,by go_num,rfl,hx⟩,by simp[intOf];omega⟩
  ·obtain rfl:j=n:=by omega
   go_wp2
   go_ret
   exact BoolSays.of rfl (hx.out)
end
end Go.Proofs.YtkjbokhnpphimaaGreatDoor
