/- Lemmas of the walk. -/
import Derived.Test.YtioglicfndkgiaaGreatDoorZ01
import Derived.Test.YtioglicfndkgiaaGreatDoorZ10
import Derived.Laws.Externs
import Derived.Laws.Cover2
import Derived.Laws.Cover3
import Derived.Laws.FloatArith
import Derived.Test.YtioglicfndkgiaaGreatDoorZ12
set_option maxHeartbeats 40000000
set_option linter.unusedVariables false
set_option linter.unusedSimpArgs false
namespace Go.Proofs.YtioglicfndkgiaaGreatDoor
set_option maxRecDepth 10000
def zax (n:Int):Nat:=FloatKind.nearest .f64 n
theorem zha {m:Nat} (hm:0<m) (h:m<9007199254740992):m.log2≤52:=by
 have:m.log2<53:=(Nat.log2_lt (by omega)).2 (by simpa using h)
 omega
def zew (m:Nat):Nat:=m * 2 ^ (52-m.log2)
theorem zdQ {m:Nat} (hm:0<m) (h:m<9007199254740992):4503599627370496≤zew m∧zew m<9007199254740992:=by
 have hl:=zha hm h
 have h1:2 ^ m.log2≤m:=Nat.log2_self_le (by omega)
 have h2:m<2 ^ (m.log2+1):=Nat.lt_log2_self
 unfold zew
 constructor
 ·calc 4503599627370496=2 ^ m.log2 * 2 ^ (52-m.log2):=by rw [← Nat.pow_add,show m.log2+(52-m.log2)=52 by omega]
   _≤m * 2 ^ (52-m.log2):=Nat.mul_le_mul_right _ h1
 ·calc m * 2 ^ (52-m.log2)<2 ^ (m.log2+1) * 2 ^ (52-m.log2):=Nat.mul_lt_mul_of_pos_right h2 (Nat.pow_pos (by decide))
   _=9007199254740992:=by rw [← Nat.pow_add,show m.log2+1+(52-m.log2)=53 by omega]
theorem zlh (neg:Bool) {m:Nat} (hm:0<m) (h:m<9007199254740992) :
 Ieee.double.nearest neg m 0=Ieee.double.word neg ((m.log2+1022) * 4503599627370496+zew m):=by
 have hl:=zha hm h
 obtain ⟨b1,b2⟩:=zdQ hm h
 have hp:Ieee.double.leastPlace = -1074:=by decide
 have hf:Ieee.double.fractionBits=52:=rfl
 have hb:Ieee.double.binade=4503599627370496:=by decide
 have hi:Ieee.double.infRung=9218868437227405312:=by decide
 unfold Ieee.Format.nearest
 rw [if_neg (by omega)]
 simp only [hp,hf,hb,hi]
 have hmax:max ((0:Int)+(m.log2:Int)-(52:Nat)) (-1074)=(m.log2:Int)-52:=by omega
 rw [hmax]
 have e1:((0:Int)-((m.log2:Int)-52)).toNat=52-m.log2:=by omega
 have e2:((m.log2:Int)-52-0).toNat=0:=by omega
 have e3:((m.log2:Int)-52 - -1074).toNat=m.log2+1022:=by omega
 rw [e1,e2,e3]
 have hc:Ieee.Toward.even.cut neg (m <<< (52-m.log2)) 0=zew m:=by
  unfold Ieee.Toward.cut zew
  simp [Nat.shiftLeft_eq,Nat.mod_one]
 rw [hc,Nat.min_eq_left (by omega)]
theorem zpO (neg:Bool) {L K:Nat} (hl:L≤52) (h1:4503599627370496≤K) (h2:K<9007199254740992) :
 Ieee.double.read (Ieee.double.word neg ((L+1022) * 4503599627370496+K))=.number neg K ((L:Int)-52):=by
 have hp:Ieee.double.leastPlace = -1074:=by decide
 have hb:Ieee.double.binade=4503599627370496:=by decide
 have hi:Ieee.double.infRung=9218868437227405312:=by decide
 have hs:Ieee.double.signWeight=9223372036854775808:=by decide
 have hw:Ieee.double.word neg ((L+1022) * 4503599627370496+K)=(if neg then 9223372036854775808 else 0)+((L+1022) * 4503599627370496+K):=by
  unfold Ieee.Format.word
  rw [hs]
  cases neg <;> simp
 unfold Ieee.Format.read
 simp only [hp,hb,hi,hs,hw]
 have hneg:(((if neg then 9223372036854775808 else 0)+((L+1022) * 4503599627370496+K)) / 9223372036854775808 % 2==1)=neg:=by
  cases neg
  ·rw [beq_eq_false_iff_ne];simp only [Bool.false_eq_true,if_false];omega
  ·rw [beq_iff_eq];simp only [if_true];omega
 have hr:((if neg then 9223372036854775808 else 0)+((L+1022) * 4503599627370496+K)) % 9223372036854775808=(L+1022) * 4503599627370496+K:=by
  cases neg
  ·simp only [Bool.false_eq_true,if_false];omega
  ·simp only [if_true];omega
 rw [hneg,hr,if_neg (by omega),if_pos (by omega)]
 have q1:4503599627370496+((L+1022) * 4503599627370496+K) % 4503599627370496=K:=by omega
 have q2:(-1074:Int)+((((L+1022) * 4503599627370496+K) / 4503599627370496-1:Nat):Int)=(L:Int)-52:=by omega
 rw [q1,q2]
theorem zdD {n:Int} (h0:n≠0) (h:n.natAbs<9007199254740992):Ieee.double.read (zax n)=.number (decide (n<0)) (zew n.natAbs) ((n.natAbs.log2:Int)-52):=by
 have hm:0<n.natAbs:=by omega
 obtain ⟨b1,b2⟩:=zdQ hm h
 have e:zax n=Ieee.double.nearest (decide (n<0)) n.natAbs 0:=rfl
 rw [e,zlh _ hm h,zpO _ (zha hm h) b1 b2]
theorem zc6:zax 0=0:=by decide
theorem zhD:Ieee.double.read 0=.number false 0 (-1074):=by decide
theorem zcL {n:Int} (h0:n≠0) (h:n.natAbs<9007199254740992) {base:Int} (hb:base≤(n.natAbs.log2:Int)-52) :
 Ieee.signed (decide (n<0)) (zew n.natAbs) ((n.natAbs.log2:Int)-52-base).toNat=n * 2 ^ (-base).toNat:=by
 have hm:0<n.natAbs:=by omega
 have hl:=zha hm h
 have hs:zew n.natAbs <<< ((n.natAbs.log2:Int)-52-base).toNat=n.natAbs * 2 ^ (-base).toNat:=by
  unfold zew
  rw [Nat.shiftLeft_eq,Nat.mul_assoc,← Nat.pow_add]
  congr 2
  omega
 unfold Ieee.signed
 rw [hs]
 by_cases hn:n<0
 ·rw [decide_eq_true hn,if_pos rfl]
  have e:n = -(n.natAbs:Int):=by omega
  conv=>rhs;rw [e]
  push_cast
  rw [Int.neg_mul]
 ·rw [decide_eq_false hn,if_neg (by decide)]
  have e:n=(n.natAbs:Int):=by omega
  conv=>rhs;rw [e]
  push_cast
  rfl
theorem zdv (a b:Int) (k:Nat):compare (a * 2 ^ k) (b * 2 ^ k)=compare a b:=by
 have hp:(0:Int)<2 ^ k:=Int.pow_pos (by decide)
 rcases Int.lt_trichotomy a b with h | h | h
 ·rw [(Int.compare_eq_lt).2 h,(Int.compare_eq_lt).2 (Int.mul_lt_mul_of_pos_right h hp)]
 ·rw [h,(Int.compare_eq_eq).2 rfl,(Int.compare_eq_eq).2 rfl]
 ·rw [(Int.compare_eq_gt).2 h,(Int.compare_eq_gt).2 (Int.mul_lt_mul_of_pos_right h hp)]
theorem znt {a b:Int} (ha:a.natAbs<9007199254740992) (hb:b.natAbs<9007199254740992):Ieee.double.order (zax a) (zax b)=some (compare a b):=by
 unfold Ieee.Format.order
 have hz:∀ k,Ieee.signed false 0 k=0:=fun k=>by simp [Ieee.signed]
 by_cases h0:a=0
 ·by_cases h1:b=0
  ·subst h0 h1;decide
  ·subst h0
   rw [zc6,zhD,zdD h1 hb]
   have hl:=zha (m:=b.natAbs) (by omega) hb
   simp only [Ieee.Datum.order]
   rw [hz,zcL h1 hb (by omega)]
   have:=zdv 0 b (-(min (-1074) ((b.natAbs.log2:Int)-52))).toNat
   rw [Int.zero_mul] at this
   rw [this]
 ·by_cases h1:b=0
  ·subst h1
   rw [zc6,zhD,zdD h0 ha]
   simp only [Ieee.Datum.order]
   rw [hz,zcL h0 ha (by omega)]
   have:=zdv a 0 (-(min ((a.natAbs.log2:Int)-52) (-1074))).toNat
   rw [Int.zero_mul] at this
   rw [this]
  ·rw [zdD h0 ha,zdD h1 hb]
   simp only [Ieee.Datum.order]
   rw [zcL h0 ha (by omega),zcL h1 hb (by omega),zdv]
theorem zq5 {m:Nat} (hm:0<m) (h:m<9007199254740992):(zew m).log2=52:=by
 obtain ⟨b1,b2⟩:=zdQ hm h
 have h1:(zew m).log2<53:=(Nat.log2_lt (by omega)).2 (by simpa using b2)
 have h2:52≤(zew m).log2:=(Nat.le_log2 (by omega)).2 (by simpa using b1)
 omega
theorem zfH {n:Int} (h0:n≠0) (h:n.natAbs<9007199254740992):(Ieee.double.read (zax n)).integral .zero=.number (decide (n<0)) n.natAbs 0:=by
 have hm:0<n.natAbs:=by omega
 have hl:=zha hm h
 rw [zdD h0 h]
 unfold Ieee.Datum.integral Ieee.Toward.cut
 have e1:((n.natAbs.log2:Int)-52).toNat=0:=by omega
 have e2:(-((n.natAbs.log2:Int)-52)).toNat=52-n.natAbs.log2:=by omega
 simp only [e1,e2,Nat.shiftLeft_zero,zq5 hm h]
 have e3:min (52-n.natAbs.log2) (52+2)=52-n.natAbs.log2:=by omega
 rw [e3,Nat.shiftLeft_eq,Nat.one_mul]
 have e4:zew n.natAbs / 2 ^ (52-n.natAbs.log2)=n.natAbs:=by
  unfold zew
  exact Nat.mul_div_cancel _ (Nat.pow_pos (by decide))
 rw [e4]
 simp
theorem znb {n:Int} (h:n.natAbs<9007199254740992):(Ieee.double.read (zax n)).toInt .zero=some n:=by
 by_cases h0:n=0
 ·subst h0;decide
 ·unfold Ieee.Datum.toInt
  rw [zfH h0 h]
  simp only [Ieee.signed,Nat.shiftLeft_zero]
  by_cases hn:n<0
  ·rw [decide_eq_true hn,if_pos rfl];congr 1;omega
  ·rw [decide_eq_false hn,if_neg (by decide)];congr 1;omega
theorem znd {n:Int} (h:n.natAbs<9007199254740992):Ieee.double.write ((Ieee.double.read (zax n)).integral .zero)=zax n:=by
 by_cases h0:n=0
 ·subst h0;decide
 ·rw [zfH h0 h]
  rfl
theorem zfM {n:Int} (h0:n≠0) (h:n.natAbs<9007199254740992):zax n=(if n<0 then 9223372036854775808 else 0)+((n.natAbs.log2+1022) * 4503599627370496+zew n.natAbs):=by
 have hm:0<n.natAbs:=by omega
 have hs:Ieee.double.signWeight=9223372036854775808:=by decide
 have e:zax n=Ieee.double.nearest (decide (n<0)) n.natAbs 0:=rfl
 rw [e,zlh _ hm h]
 unfold Ieee.Format.word
 rw [hs]
 by_cases hn:n<0
 ·simp [hn]
 ·simp [hn]
theorem zjG {n:Int} (h0:n≠0) (h:n.natAbs<9007199254740992):(n.natAbs.log2+1022) * 4503599627370496+zew n.natAbs<9223372036854775808:=by
 have hm:0<n.natAbs:=by omega
 obtain ⟨b1,b2⟩:=zdQ hm h
 have:=zha hm h
 omega
theorem zpG {n:Int} (h:n.natAbs<9007199254740992):zax n<18446744073709551616:=by
 by_cases h0:n=0
 ·subst h0;decide
 ·rw [zfM h0 h]
  have:=zjG h0 h
  split <;> omega
theorem zrs {n:Int} (h:n.natAbs<9007199254740992):zax n % 9223372036854775808=zax (n.natAbs:Int):=by
 by_cases h0:n=0
 ·subst h0;decide
 ·have hl:=zjG h0 h
  rw [zfM h0 h,zfM (n:=(n.natAbs:Int)) (by omega) (by omega),if_neg (show ¬ ((n.natAbs:Int)<0) by omega)]
  simp only [Int.natAbs_natCast]
  split <;> omega
theorem zpN {n:Int} (h:n.natAbs<9007199254740992):decide (9223372036854775808≤zax n)=decide (n<0):=by
 by_cases h0:n=0
 ·subst h0;decide
 ·have hl:=zjG h0 h
  rw [zfM h0 h]
  by_cases hn:n<0
  ·rw [if_pos hn,decide_eq_true hn];exact decide_eq_true (by omega)
  ·rw [if_neg hn,decide_eq_false hn];exact decide_eq_false (by omega)
end Go.Proofs.YtioglicfndkgiaaGreatDoor
namespace Go.Proofs.YtioglicfndkgiaaGreatDoor
open Go.RowKit
set_option maxRecDepth 100000
theorem zdy {P:Program} (x:Nat) {s:Bool} {m:Nat} {p:Int} (hx:FloatKind.decode .f64 x=.number s m p) (w:World) :
 (Extern.MathFloor.toIntegral "math.archTrunc" .zero #[.float .f64 x]).run P w=.ok (.float .f64 (FloatKind.encode .f64 ((Ieee.Datum.number s m p).integral .zero))) w:=by
 obtain ⟨A,hA⟩:∃ A:Bool→Nat→Sem Value,Extern.MathFloor.toIntegral "math.archTrunc" .zero #[.float .f64 x]=(match FloatKind.decode .f64 x with | .nan s t=>A s t | d=>pure (.float .f64 (FloatKind.encode .f64 (d.integral .zero)))):=⟨_,rfl⟩
 rw [hA,hx]
 rfl
theorem zhg {P:Program} {n:Int} (h:n.natAbs<9007199254740992) (w:World):(Extern.MathFloor.toIntegral "math.archTrunc" .zero #[.float .f64 (zax n)]).run P w=.ok (.float .f64 (zax n)) w:=by
 have ht:=znd h
 have hd:FloatKind.decode .f64 (zax n)=Ieee.double.read (zax n):=rfl
 by_cases h0:n=0
 ·subst h0
  rw [zc6,zhD] at *
  rw [zdy 0 hd]
  exact congrArg (fun b=>Result.ok (Value.float .f64 b) w) ht
 ·rw [zdD h0 h] at *
  rw [zdy _ hd]
  exact congrArg (fun b=>Result.ok (Value.float .f64 b) w) ht
theorem zqb {n:Int} (h:n.natAbs<9007199254740992) (w:World):(callFunc 236 #[.float .f64 (zax n)]).run Tryz.prog w=.ok (.value (.float .f64 (zax n))) w:=by
 have:=run_callFunc_extern (P:=Tryz.prog) (e:=Extern.MathFloor.toIntegral "math.archTrunc" .zero) Tryz.func236 (by kernel_rfl) (by kernel_rfl) (by kernel_rfl) (by kernel_rfl) #[.float .f64 (zax n)] w
 rw [this,zhg h]
 rfl
theorem zit (b:Nat) (w:World):(callFunc 239 #[.float .f64 b]).run Tryz.prog w=.ok (.value (.int .u64 b)) w:=by
 have:=run_callFunc_extern (P:=Tryz.prog) (e:=Extern.MathFloatBits.float64bits) Tryz.func239 (by kernel_rfl) (by kernel_rfl) (by kernel_rfl) (by kernel_rfl) #[.float .f64 b] w
 rw [this]
 rfl
theorem zkU (b:Nat) (w:World):(callFunc 238 #[.int .u64 b]).run Tryz.prog w=.ok (.value (.float .f64 b)) w:=by
 have:=run_callFunc_extern (P:=Tryz.prog) (e:=Extern.MathFloatBits.float64frombits) Tryz.func238 (by kernel_rfl) (by kernel_rfl) (by kernel_rfl) (by kernel_rfl) #[.int .u64 b] w
 rw [this]
 rfl
theorem znF {n:Int} (h:n.natAbs<9007199254740992) (w:World):Calls Tryz.prog 233 #[.float .f64 (zax n)] w fun e w'=>e=.returned (.float .f64 (zax n))∧w'=w:=by
 have ht:=fun w=>zqb h w
 generalize zax n=b at *
 go_enter Tryz.func233,Tryz.ntmps233
 go_wp2
 go_ret
 exact ⟨rfl,rfl⟩
theorem zrR {n:Int} (h:n.natAbs<9007199254740992):bits .andNot .u64 (zax n) 9223372036854775808=(zax (n.natAbs:Int):Int):=by
 have hl:=zpG h
 have ha:=zrs h
 have hk:zax (n.natAbs:Int)<9223372036854775808:=by rw [← ha];exact Nat.mod_lt _ (by decide)
 have e1:(BitVec.ofInt 64 (zax n:Int) &&& ~~~BitVec.ofInt 64 9223372036854775808).toNat=zax n % 9223372036854775808:=by
  have e2: ~~~BitVec.ofInt 64 9223372036854775808=BitVec.ofNat 64 (2 ^ 63-1):=by decide
  rw [e2,BitVec.toNat_and,BitVec.toNat_ofNat]
  have e3:(BitVec.ofInt 64 (zax n:Int)).toNat=zax n:=by
   rw [BitVec.toNat_ofInt]
   omega
  rw [e3,show (2 ^ 63-1) % 2 ^ 64=2 ^ 63-1 by decide,Nat.and_two_pow_sub_one_eq_mod]
 show IntKind.wrap .u64 ((BitVec.ofInt 64 (zax n:Int) &&& ~~~BitVec.ofInt 64 9223372036854775808).toNat:Int)=_
 rw [e1,ha]
 unfold IntKind.wrap
 simp [IntKind.signed,IntKind.bits]
 omega
theorem zqW {n:Int} (h:n.natAbs<9007199254740992) (w:World):Calls Tryz.prog 234 #[.float .f64 (zax n)] w fun e w'=>e=.returned (.float .f64 (zax (n.natAbs:Int)))∧w'=w:=by
 have ht:=fun w=>zit (zax n) w
 have hf:=fun w=>zkU (zax (n.natAbs:Int)) w
 have ha:=zrR h
 generalize zax (n.natAbs:Int)=c at *
 generalize zax n=b at *
 go_enter Tryz.func234,Tryz.ntmps234
 go_wp2
 go_ret
 exact ⟨rfl,rfl⟩
theorem zok {b:Nat} (h:b<18446744073709551616):decide (wrap64 (b:Int)<0)=decide (9223372036854775808≤b):=by
 have:wrap64 (b:Int)<0 ↔ 9223372036854775808≤b:=by unfold wrap64;omega
 exact decide_eq_decide.mpr this
theorem zoq {n:Int} (h:n.natAbs<9007199254740992) (w:World):Calls Tryz.prog 235 #[.float .f64 (zax n)] w fun e w'=>e=.returned (.bool (decide (n<0)))∧w'=w:=by
 have ht:=fun w=>zit (zax n) w
 have hs:=zpN h
 have hl:=zpG h
 rw [← hs]
 generalize zax n=b at *
 clear hs h
 go_enter Tryz.func235,Tryz.ntmps235
 go_wp2
 have hc:=zok hl
 go_ret
 exact ⟨by rw [hc];rfl,rfl⟩
theorem zfJ {a b:Int} (ha:a.natAbs<9007199254740992) (hb:b.natAbs<9007199254740992):(FloatKind.f64).format.order (zax a) (zax b)=some (compare a b):=znt ha hb
theorem zlj:zax 1000000=4696837146684686336:=by decide
theorem zqm:zax 1=4607182418800017408:=by decide
theorem zn4:zax (-1)=13830554455654793216:=by decide
theorem zmS {n:Int} (h:n.natAbs<9007199254740992) (w:World):Calls Tryz.prog 224 #[.float .f64 (zax n)] w fun e w'=>e=.returned (.bool (decide (n.natAbs≤1000000)))∧w'=w:=by
 have h1:=fun w=>znF h w
 have h2:=fun w=>zqW h w
 have h3:=fun w=>zoq h w
 have c1:((FloatKind.f64).format.order (zax n) (zax n)==some .eq)=true:=by rw [zfJ h h];simp
 have c2:((FloatKind.f64).format.order (zax (n.natAbs:Int)) 4696837146684686336==some .lt || (FloatKind.f64).format.order (zax (n.natAbs:Int)) 4696837146684686336==some .eq)=decide (n.natAbs≤1000000):=by
  rw [← zlj,zfJ (by omega) (by decide)]
  rcases Int.lt_trichotomy (n.natAbs:Int) 1000000 with h | h | h
  ·rw [(Int.compare_eq_lt).2 h];simp;omega
  ·rw [(Int.compare_eq_eq).2 h];simp;omega
  ·rw [(Int.compare_eq_gt).2 h];simp;omega
 have c3:((FloatKind.f64).format.order (zax n) 0 != some .eq)=decide (n≠0):=by
  rw [← zc6,zfJ h (by decide)]
  rcases Int.lt_trichotomy n 0 with h | h | h
  ·have hn:n≠0:=by omega
   rw [(Int.compare_eq_lt).2 h];simp [hn]
  ·rw [(Int.compare_eq_eq).2 h];simp [h]
  ·have hn:n≠0:=by omega
   rw [(Int.compare_eq_gt).2 h];simp [hn]
 generalize zax n=b at *
 generalize zax (n.natAbs:Int)=c at *
 go_enter Tryz.func224,Tryz.ntmps224
 go_wp2_with (first
  | (go_at_call 233;(with_reducible refine (h1 _).mono ?_);rintro e w1 ⟨rfl,rfl⟩)
  | (go_at_call 234;(with_reducible refine (h2 _).mono ?_);rintro e w1 ⟨rfl,rfl⟩)
  | (go_at_call 235;(with_reducible refine (h3 _).mono ?_);rintro e w1 ⟨rfl,rfl⟩))
 all_goals clear h1 h2 h3
 all_goals go_ret
 all_goals exact ⟨by simp [*] <;> (try rfl),rfl⟩
theorem zkj {a b:Int} (ha:a.natAbs<9007199254740992) (hb:b.natAbs<9007199254740992) (w:World):Calls Tryz.prog 201 #[.complex .f64 (zax a) (zax b)] w fun e w'=>e=.returned (.bool (decide (a.natAbs≤1000000) && decide (b.natAbs≤1000000)))∧w'=w:=by
 have h1:=fun w=>zmS ha w
 have h2:=fun w=>zmS hb w
 generalize zax a=x at *
 generalize zax b=y at *
 generalize decide (a.natAbs≤1000000)=d at *
 generalize decide (b.natAbs≤1000000)=f at *
 go_enter Tryz.func201,Tryz.ntmps201
 go_wp2_with (first
  | (go_at_call 224;(with_reducible refine (h1 _).mono ?_);rintro e w1 ⟨rfl,rfl⟩)
  | (go_at_call 224;(with_reducible refine (h2 _).mono ?_);rintro e w1 ⟨rfl,rfl⟩))
 all_goals go_ret
 all_goals exact ⟨by simp [*] <;> (try rfl),rfl⟩
theorem zps {n:Int} (h:n.natAbs<9007199254740992):floatToIntVal .f64 (zax n) .i64=some n:=by
 have ht:=znb h
 have hd:FloatKind.decode .f64 (zax n)=Ieee.double.read (zax n):=rfl
 unfold floatToIntVal
 rw [hd,ht]
 have h1:IntKind.i64.min = -9223372036854775808:=by decide
 have h2:IntKind.i64.max=9223372036854775807:=by decide
 show (if IntKind.i64.min≤n∧n≤IntKind.i64.max then some n else none)=some n
 rw [if_pos ⟨by omega,by omega⟩]
theorem zrf {n:Int} (h:n.natAbs<9007199254740992) (w:World):(convert 224 2 (.float .f64 (zax n))).run Tryz.prog w=.ok (.int .i64 n) w:=
 run_convert_float_int w _ _ .f64 .i64 _ n (by rw [Tryz.underlying224];rfl) Tryz.underlying2 (zps h)
theorem zhs {n:Int} (h:n.natAbs<9007199254740992) (w:World) (hG:Gl w):Calls Tryz.prog 202 #[.float .f64 (zax n)] w fun e w'=>e=.returned (.string (str (Lib.itoa n)))∧Ext w w':=by
 have hc:=zrf h w
 have hf:=zbo n w hG (by omega) (by omega)
 generalize zax n=b at *
 go_enter Tryz.func202,Tryz.ntmps202
 go_wp2_with (go_at_call 150;(with_reducible refine hf.mono ?_);rintro e w1 ⟨rfl,hx⟩)
 go_ret
 exact ⟨rfl,hx⟩
theorem zjN {l:List UInt8} {n:Int} (h:Lib.parseIntB 32 l=.ok n):n.natAbs≤2147483648:=by
 unfold Lib.parseIntB at h
 split at h
 ·cases h
 ·simp only at h
  split at h
  ·cases h
  ·cases h
  ·split at h
   ·cases h
   ·split at h
    ·cases h
    ·cases h
     split <;> omega
theorem zjH (s:ByteArray) (n:Int) (w:World) (hs:s.size≤4000000) (h:Lib.parseIntB 32 (bys s)=.ok n) :
 Calls Tryz.prog 149 #[.string s,.int .i64 10,.int .i64 32] w fun e w'=>e=.returned (.tuple #[.int .i64 n,.nilIface])∧Ext w w':=by
 refine (Any.strconv_ParseInt_10_at32_ok Tryz.laysC174 s (by omega) n h w).mono ?_
 rintro e w' ⟨rfl,rfl | ⟨t,rfl⟩⟩
 ·exact ⟨rfl,Ext.refl _⟩
 ·exact ⟨rfl,zkz _ _ _⟩
theorem zs2 (l:List UInt8):(Lib.intSat 32 l).natAbs<9007199254740992:=by
 unfold Lib.intSat
 split <;> decide
theorem zh9 (s:ByteArray) (w:World) (hG:Gl w) (hs:s.size≤4000000) (h:∀ n,Lib.parseIntB 32 (bys s)≠.ok n) :
 Calls Tryz.prog 149 #[.string s,.int .i64 10,.int .i64 32] w fun e w'=>(∃ (n:Int) (tp:Nat) (a:Addr),n.natAbs<9007199254740992∧e=.returned (.tuple #[.int .i64 n,.iface tp (.pointer (some a))]))∧Ext w w':=by
 obtain ⟨-,⟨t1,p1,h1⟩,⟨t2,p2,h2⟩,-⟩:=hG
 rcases hp:Lib.parseIntB 32 (bys s) with n | _ | _
 ·exact absurd hp (h n)
 ·refine (Any.strconv_ParseInt_10_at32_syntax_var Tryz.laysC174 s (by omega) hp t1 p1 w h1).mono ?_
  rintro e w' ⟨N,rfl,_,_,hx⟩
  exact ⟨⟨_,_,_,by decide,rfl⟩,hx⟩
 ·refine (Any.strconv_ParseInt_10_at32_range_var Tryz.laysC174 s (by omega) hp t2 p2 w h2).mono ?_
  rintro e w' ⟨N,rfl,_,_,hx⟩
  exact ⟨⟨_,_,_,zs2 _,rfl⟩,hx⟩
def zdL (s:ByteArray) (w:World) (e:Ending) (w':World):Prop:=∃ (n:Int) (b:Bool),n.natAbs<9007199254740992∧e=.returned (.tuple #[.float .f64 (zax n),.bool b])∧Ext w w'∧(b=true→Lib.parseIntB 32 (bys s)=.ok n)∧(b=false→∀ n,Lib.parseIntB 32 (bys s)≠.ok n)
theorem zjT (n:Int) (w:World):(convert 2 224 (.int .i64 n)).run Tryz.prog w=.ok (.float .f64 (zax n)) w:=
 run_convert_int_float w _ _ .i64 .f64 n (by rw [Tryz.underlying2];rfl) Tryz.underlying224
theorem zgb (s:ByteArray) (w:World) (hG:Gl w) (hs:s.size≤4000000):Calls Tryz.prog 174 #[.string s] w (zdL s w):=by
 by_cases hp:∃ n,Lib.parseIntB 32 (bys s)=.ok n
 ·obtain ⟨n,hn⟩:=hp
  have hb:=zjN hn
  have HC:=zjH s n w hs hn
  have hc:=zjT n
  have HS:∀ w',Ext w w'→zdL s w (.returned (.tuple #[.float .f64 (zax n),.bool true])) w':=fun w' hx=>⟨n,true,by omega,rfl,hx,fun _=>hn,fun h=>by cases h⟩
  generalize zax n=b at *
  clear hn hb
  generalize zdL s w=R at *
  go_enter Tryz.func174,Tryz.ntmps174
  go_wp2_with (go_at_call 149;(with_reducible refine HC.mono ?_);rintro e w1 ⟨rfl,hx⟩;have HX:=hid hx;clear hx HC)
  refine zad (.read 0 (.read 1 (.read 2 (.read 3 (.read 4 (.read 5 .done)))))) (by kernel_rfl) (by kernel_rfl) ?_
  intro wD hxD
  repeat' (first
   | ((first | refine zah rfl rfl ?_ | refine zae rfl rfl ?_ | refine zak rfl rfl ?_);simp only [Act.put,Act.eval,evs])
   | (refine zab rfl rfl ?_;simp only [Act.put,evp])
   | (refine zag (v:=?_) rfl rfl (fun w' hE=>?_) ?_;rotate_left 1;(· ((try (have hEx:=Ext.trans (Hid.out XE) hE));go_simp;(try go_bits);with_reducible rfl));simp only [Act.put,evp])
   | (refine walks_alt ?_ ?_)
   | (refine zai rfl rfl (fun K hK=>?_);go_wp2_with (fail);refine hK _ _ (by first | assumption | exact Ext.alloc _ _ | exact Ext.refl _) ?_;clear hK K;try simp only [Act.put,evp]))
  refine zaj ?_
  go_wp2
  first | exact HX.out.trans hxD | exact HS _ (HX.out.trans hxD)
 ·have HC:=zh9 s w hG hs (fun n hn=>hp ⟨n,hn⟩)
  have HS:∀ n w',n.natAbs<9007199254740992→Ext w w'→zdL s w (.returned (.tuple #[.float .f64 (zax n),.bool false])) w':=fun n w' hb hx=>⟨n,false,hb,rfl,hx,fun h=>by (cases h),fun _ n hn=>hp ⟨n,hn⟩⟩
  clear hp
  generalize zdL s w=R at *
  go_enter Tryz.func174,Tryz.ntmps174
  go_wp2_with (go_at_call 149;(with_reducible refine HC.mono ?_);rintro e w1 ⟨⟨n,tp,a,hb,rfl⟩,hx⟩;have HX:=hid hx;have HS:=HS n;have hc:=zjT n;clear hx HC)
  generalize zax n=b at *
  refine zad (.read 0 (.read 1 (.read 2 (.read 3 (.read 4 (.read 5 .done)))))) (by kernel_rfl) (by kernel_rfl) ?_
  intro wD hxD
  repeat' (first
   | ((first | refine zah rfl rfl ?_ | refine zae rfl rfl ?_ | refine zak rfl rfl ?_);simp only [Act.put,Act.eval,evs])
   | (refine zab rfl rfl ?_;simp only [Act.put,evp])
   | (refine zag (v:=?_) rfl rfl (fun w' hE=>?_) ?_;rotate_left 1;(· ((try (have hEx:=Ext.trans (Hid.out XE) hE));go_simp;(try go_bits);with_reducible rfl));simp only [Act.put,evp])
   | (refine walks_alt ?_ ?_)
   | (refine zai rfl rfl (fun K hK=>?_);go_wp2_with (fail);refine hK _ _ (by first | assumption | exact Ext.alloc _ _ | exact Ext.refl _) ?_;clear hK K;try simp only [Act.put,evp]))
  refine zaj ?_
  go_wp2
  exact HS _ hb (HX.out.trans hxD)
end Go.Proofs.YtioglicfndkgiaaGreatDoor
namespace Go.Proofs.YtioglicfndkgiaaGreatDoor
set_option maxRecDepth 10000
theorem zcw:∀ (n u:Nat),u≤n→(Lib.decDigits u).all digC=true∧zal 0 (Lib.decDigits u)=u∧Lib.decDigits u≠[]
 | n,u,hn=>by
  by_cases h:u<10
  ·rw [zcp h]
   have e:(UInt8.ofNat (48+u)).toNat=48+u:=by
    rw [UInt8.toNat_ofNat']
    omega
   refine ⟨?_,?_,by simp⟩
   ·simp only [List.all_cons,List.all_nil,Bool.and_true]
    rw [zaR,e];omega
   ·show 0 * 10+((UInt8.ofNat (48+u)).toNat-48)=u
    rw [e];omega
  ·rw [zhT h]
   cases n with
   | zero=>omega
   | succ n=>
    obtain ⟨h1,h2,h3⟩:=zcw n (u / 10) (by omega)
    have e:(UInt8.ofNat (48+u % 10)).toNat=48+u % 10:=by
     rw [UInt8.toNat_ofNat']
     omega
    refine ⟨?_,?_,by simp⟩
    ·rw [List.all_append,Bool.and_eq_true]
     refine ⟨h1,?_⟩
     simp only [List.all_cons,List.all_nil,Bool.and_true]
     rw [zaR,e];omega
    ·rw [zbl,h2,e];omega
theorem zjX {M:Nat} (hM:M<1000000000000000000) (l:List UInt8):∀ acc:Nat,l.all digC=true→zal acc l≤M→Lib.parseUintM M acc l=.ok (zal acc l):=by
 induction l with
 | nil=>intro acc _ _;rfl
 | cons c t ih=>
  intro acc h hv
  simp only [List.all_cons,Bool.and_eq_true] at h
  have h1:=(zaR c).1 h.1
  have e:zal acc (c::t)=zal (acc * 10+(c.toNat-48)) t:=rfl
  rw [e] at hv ⊢
  have h2:=zf8 t (acc * 10+(c.toNat-48))
  have h3:acc * 10+(c.toNat-48)≤M:=Nat.le_trans h2 hv
  unfold Lib.parseUintM
  rw [if_pos h1,if_neg (by omega),if_neg (by omega)]
  exact ih _ h.2 hv
theorem ze6 {u:Nat} (h:u≤1000000):Lib.parseIntB 32 (Lib.decDigits u)=.ok (u:Int):=by
 obtain ⟨h1,h2,h3⟩:=zcw u u (Nat.le_refl _)
 have hp:=zjX (M:=2 ^ 32-1) (by decide) (Lib.decDigits u) 0 h1 (by rw [h2];exact Nat.le_trans h (by decide))
 rw [h2] at hp
 cases hd:Lib.decDigits u with
 | nil=>exact absurd hd h3
 | cons c t=>
  rw [hd] at h1 hp
  simp only [List.all_cons,Bool.and_eq_true] at h1
  have hc:=(zaR c).1 h1.1
  unfold Lib.parseIntB
  simp only
  rw [if_neg (by omega)]
  unfold Lib.parseUintB
  rw [if_neg (by simp),hp]
  simp only
  have:2 ^ (32-1)=2147483648:=by decide
  rw [if_neg (by omega),if_neg (by omega),if_neg (by omega)]
theorem zdd {u:Nat} (h:u≤1000000) (c:UInt8) (hc:c.toNat=43∨c.toNat=45):Lib.parseIntB 32 (c::Lib.decDigits u)=.ok (if c.toNat=45 then -(u:Int) else u):=by
 obtain ⟨h1,h2,h3⟩:=zcw u u (Nat.le_refl _)
 have hp:=zjX (M:=2 ^ 32-1) (by decide) (Lib.decDigits u) 0 h1 (by rw [h2];exact Nat.le_trans h (by decide))
 rw [h2] at hp
 unfold Lib.parseIntB
 simp only
 rw [if_pos hc]
 unfold Lib.parseUintB
 rw [if_neg h3,hp]
 simp only
 have:2 ^ (32-1)=2147483648:=by decide
 rw [if_neg (by omega),if_neg (by omega)]
theorem zdl {a:Int} (h:a.natAbs≤1000000):Lib.parseIntB 32 (Lib.itoa a)=.ok a:=by
 unfold Lib.itoa
 by_cases h0:a<0
 ·rw [if_pos h0,zdd h 45 (.inr (by decide)),if_pos (by decide)]
  congr 1
  omega
 ·rw [if_neg h0,ze6 (by omega)]
  congr 1
  omega
end Go.Proofs.YtioglicfndkgiaaGreatDoor
namespace Go.Proofs.YtioglicfndkgiaaGreatDoor
open Go.RowKit
set_option maxRecDepth 100000
theorem zry (w:World) (x:UInt8):Sl (w.alloc (.cells #[.int .u8 92,.int .u8 (x.toNat:Int)] 5)) (some ⟨w.heap.size,0,none⟩) 2 2 [92,x]:=zlf w [92,x] 2 rfl (by simp [maxLen])
theorem zrN {w:World} {o:Oper} {a:Act} {K:Act→World→Prop} {Q:Exit→Act→World→Prop} (x y:Operand) (ho:o.op=.buildSlice 129 3 #[(0,.const (.int .u8 92)),(1,x),(2,y)]) (p q:UInt8) (hx:a.eval x=.int .u8 (p.toNat:Int)) (hy:a.eval y=.int .u8 (q.toNat:Int))
 (h:∀ w',Ext w w'→Sl w' (some ⟨w.heap.size,0,none⟩) 3 3 [92,p,q]→K (a.put o.dst (.slice (some ⟨w.heap.size,0,none⟩) 3 3)) w'):o.wp Tryz.prog a w K Q:=by
 have hr:(execOp a.eval o).run Tryz.prog w=.ok (.value (.slice (some ⟨w.heap.size,0,none⟩) 3 3)) (w.alloc (.cells #[.int .u8 92,.int .u8 (p.toNat:Int),.int .u8 (q.toNat:Int)] 5)):=by
  unfold execOp
  simp only [ho,List.map_toArray,List.map_cons,List.map_nil,hx,hy]
  kernel_rfl
 unfold Oper.wp
 rw [hr]
 exact h _ (Ext.alloc _ _) (zlf w [92,p,q] 3 rfl (by simp [maxLen]))
theorem zfT {B b:Nat} {xs:List UInt8} (s:ByteArray) (w:World) (hI:IsB B b xs w) (hs:s.size≤4000000) (hl:xs.length≤100000000000000) :
 Calls Tryz.prog 108 #[.pointer (some ⟨b,0,none⟩),.string s] w fun e w'=>e=.returned (.tuple #[])∧IsB B b (xs++zaA true (bys s)) w'∧Kept B b w w':=by
 have Hs:=hid hs
 have HI0:=hid hI
 clear hI
 go_enter Tryz.func108,Tryz.ntmps108
 go_wp2
 go_loopw [9] (fun i wr=>∃ (j:Nat) (acc:List UInt8),j≤s.size∧i=.int .i64 j∧acc.length≤3 * j∧Hid (IsB B b (xs++acc) wr∧Kept B b w wr)∧Hid (acc++zaA (decide (j=0)) ((bys s).drop j)=zaA true (bys s))) (fun i _=>s.size-(intOf i).toNat)
 case atStart=>exact ⟨0,[],by omega,rfl,by simp,⟨by rw [List.append_nil];exact HI0,Kept.refl _ _ _⟩,rfl⟩
 case round=>
  obtain ⟨j,acc,hj,rfl,hacc,HI,HR⟩:=hrel
  by_cases hlt:j<s.size
  ·obtain ⟨x,hx⟩:=zcq hlt
   have gx:=za0 hx hlt
   have hd:=zc0 hx
   have hx1:(x.toNat:Int)<256:=by have:=x.toNat_lt;omega
   have hx0:0≤(x.toNat:Int):=by omega
   have hemp:((bys s).drop (j+1)).isEmpty=((j:Int)==(s.size:Int)-1):=by
    rw [Bool.eq_iff_iff,List.isEmpty_iff,beq_iff_eq,List.drop_eq_nil_iff,zaf]
    omega
   have h0:decide (j=0)=((j:Int)==0):=by rw [Bool.eq_iff_iff,beq_iff_eq,decide_eq_true_eq];omega
   have hst:acc++ze2 x ((j:Int)==0) ((j:Int)==(s.size:Int)-1)++zaA false ((bys s).drop (j+1))=zaA true (bys s):=by
    rw [← HR.out,hd,zg9,hemp,h0,List.append_assoc]
   have hj1:decide (j+1=0)=false:=rfl
   rw [← hj1] at hst
   have HE:Hid (escI (x.toNat:Int) ((j:Int)==0) ((j:Int)==(s.size:Int)-1) (zbs x)=true→(acc++[92,x])++zaA (decide (j+1=0)) ((bys s).drop (j+1))=zaA true (bys s)):=by
    intro h;rw [← hst];unfold ze2;rw [if_pos h]
   have HP:Hid (escI (x.toNat:Int) ((j:Int)==0) ((j:Int)==(s.size:Int)-1) (zbs x)=false→¬ ((x.toNat:Int)<32∨126<(x.toNat:Int))→(acc++[x])++zaA (decide (j+1=0)) ((bys s).drop (j+1))=zaA true (bys s)):=by
    intro h k;rw [← hst];unfold ze2;rw [if_neg (by rw [h];decide),if_neg k]
   have HX:Hid (escI (x.toNat:Int) ((j:Int)==0) ((j:Int)==(s.size:Int)-1) (zbs x)=false→((x.toNat:Int)<32∨126<(x.toNat:Int))→(acc++[92,zbr (x.toNat / 16),zbr (x.toNat % 16)])++zaA (decide (j+1=0)) ((bys s).drop (j+1))=zaA true (bys s)):=by
    intro h k;rw [← hst];unfold ze2;rw [if_neg (by rw [h];decide),if_pos k]
   clear hx hd hemp h0 hst hj1
   cases hsp:zbs x with
   | true=>
    have HM:=hid ((zeI x).1 hsp)
    have HE':Hid ((acc++[92,x])++zaA (decide (j+1=0)) ((bys s).drop (j+1))=zaA true (bys s)):=HE.out (by unfold escI;rw [hsp];simp)
    clear hsp HE HP HX
    generalize hq32:((x.toNat:Int)==32)=b32 at *
    generalize hq35:((x.toNat:Int)==35)=b35 at *
    generalize hq0:((j:Int)==0)=b0 at *
    generalize hqL:((j:Int)==(s.size:Int)-1)=bL at *
    cases b32 <;> cases b35 <;> cases b0 <;> cases bL
    all_goals
     go_wp2_with (first
      | (go_at_call 139;(with_reducible refine (zb1 _ _ x (zbu _) _ HM.out).mono ?_);rintro e w4 ⟨⟨i,rfl⟩,rfl⟩;have hi0:0≤(i:Int):=by omega)
      | (go_at_call 140;(with_reducible refine (zf5 _ 2 2 [92,x] (HI.out.1.ext (Ext.alloc _ _)) (zry _ x) (fun a ha=>by injection ha with ha;subst ha;have:=HI.out.1.lt;show _≠_;simp;omega) (by simp;omega)).mono ?_);rintro e w5 ⟨rfl,hi5,hx5⟩;have HI5:=hid hi5;have HX5:=hid hx5;clear hi5 hx5))
     exact ⟨⟨j+1,acc++[92,x],by omega,by go_num,by simp;omega,⟨by rw [← List.append_assoc];exact HI5.out,Kept.trans HI.out.2 (Kept.trans (zdP (Ext.alloc _ _) HI.out.1.le) HX5.out)⟩,HE'⟩,by simp [intOf];omega⟩
   | false=>
    have HM:Hid (x ∉ ([44,43,34,92,60,62,59]:List UInt8)):=fun h=>by have:=(zeI x).2 h;rw [hsp] at this;cases this
    rw [hsp] at HE HP HX
    clear hsp
    generalize hq32:((x.toNat:Int)==32)=b32 at *
    generalize hq35:((x.toNat:Int)==35)=b35 at *
    generalize hq0:((j:Int)==0)=b0 at *
    generalize hqL:((j:Int)==(s.size:Int)-1)=bL at *
    have hE2:∀ b,escI (x.toNat:Int) b0 bL false=b ↔ ((b32 && (b0 || bL)) || (b35 && b0))=b:=by intro b;unfold escI;rw [hq32,hq35,Bool.or_false]
    rw [hE2] at HE HP HX
    clear hE2
    have hu:(((x.toNat:Int)<32∨126<(x.toNat:Int))∧((x.toNat:Int)<32∨(¬ (x.toNat:Int)<32∧126<(x.toNat:Int))))∨(¬ ((x.toNat:Int)<32∨126<(x.toNat:Int))∧¬ (x.toNat:Int)<32∧¬ 126<(x.toNat:Int)):=by omega
    cases b32 <;> cases b35 <;> cases b0 <;> cases bL
    all_goals first
     | (have HE':=hid (HE.out rfl)
        clear HE HP HX hu
        go_wp2_with (first
         | (go_at_call 140;(with_reducible refine (zf5 _ 2 2 [92,x] (HI.out.1.ext (Ext.alloc _ _)) (zry _ x) (fun a ha=>by injection ha with ha;subst ha;have:=HI.out.1.lt;show _≠_;simp;omega) (by simp;omega)).mono ?_);rintro e w5 ⟨rfl,hi5,hx5⟩;have HI5:=hid hi5;have HX5:=hid hx5;clear hi5 hx5))
        exact ⟨⟨j+1,acc++[92,x],by omega,by go_num,by simp;omega,⟨by rw [← List.append_assoc];exact HI5.out,Kept.trans HI.out.2 (Kept.trans (zdP (Ext.alloc _ _) HI.out.1.le) HX5.out)⟩,HE'⟩,by simp [intOf];omega⟩)
     | (rcases hu with ⟨hu,hv⟩ | ⟨hu,hu1,hu2⟩
        ·have HX':=hid (HX.out rfl hu)
         clear HE HP HX hu
         obtain ⟨k1,hk1⟩:∃ k,k=x.toNat / 16:=⟨_,rfl⟩
         obtain ⟨k2,hk2⟩:∃ k,k=x.toNat % 16:=⟨_,rfl⟩
         have hl1:k1<16:=by omega
         have hl2:k2<16:=by omega
         have g1:=za0 (zjr hl1) hl1
         have g2:=za0 (zjr hl2) hl2
         have hsh:(x.toNat:Int) / 16=(k1:Int):=by omega
         have hand:=zow x
         rw [← hk1,← hk2] at HX'
         rw [← hk2] at hand
         have hk1':(k1:Int)<16:=by omega
         have hk2':(k2:Int)<16:=by omega
         generalize zbr k1=d1 at *
         generalize zbr k2=d2 at *
         clear hk1 hk2
         rcases hv with hv | ⟨hv,hv2⟩
         all_goals
          go_wp2_with (first
           | (go_at_call 139;(with_reducible refine (zaV _ _ x (zbu _) _ HM.out).mono ?_);rintro e w4 ⟨rfl,rfl⟩))
          refine zaq B (.read 0 (.read 1 (.read 2 (.read 3 (.read 4 (.read 5 (.read 6 (.main 7 (.main 8 .done))))))))) (by kernel_rfl) (by kernel_rfl) ?_
          intro wD hxD
          have XB:Hid (Below B wD wD):=Below.refl _ _
          have HID:=hid (HI.out.1.ext hxD)
          have HXD:=hid (Kept.trans HI.out.2 (zdP hxD HI.out.1.le))
          repeat' (first
           | ((first | refine zaI rfl rfl ?_ | refine zaw rfl rfl ?_ | refine walksB_skip rfl rfl ?_);simp only [Act.put,Act.eval,evs])
           | (refine walksB_unwanted rfl rfl ?_;simp only [Act.put,evp])
           | (refine zaC (v:=?_) rfl rfl (fun w' hE=>?_) ?_;rotate_left 1;(· ((try (have hEx:=Below.trans (Hid.out XB) hE));go_simp;(try go_bits);with_reducible rfl));simp only [Act.put,evp])
           | (refine zam rfl rfl (fun K hK=>?_);(first | (refine zrN _ _ rfl d1 d2 rfl rfl ?_;intro w8 hx8 hs8;have hx8':=Below.mono hx8 HID.out.le;have HIE:=hid (HID.out.ext hx8);have HK8:Hid (Kept B b wD w8):=zdP hx8 HID.out.le;have HS8:=hid hs8;have HA8:Hid (∀ a,some (⟨wD.heap.size,0,none⟩:Addr)=some a→a.block≠b):=(fun a ha=>by injection ha with ha;subst ha;have:=HID.out.lt;show _≠_;simp;omega);clear hx8 hs8;have XB':=hid (Below.trans (Hid.out XB) (hx8'));clear XB;have XB:=XB';clear XB'));refine hK _ _ (by first | assumption | exact Below.refl _ _ | exact Below.mono (Ext.alloc _ _) (Hid.out HSW) | exact Below.setCell (p:=⟨_,_,_⟩) (Below.refl _ _) (Nat.le_refl _) _) ?_;clear hK K;try simp only [Act.put,evp])
           | (refine zaQ ?_ ?_)
           | (refine zam rfl rfl (fun K hK=>?_);go_wp2_with ((go_at_call 140;(with_reducible refine (zf5 _ 3 3 [92,d1,d2] HIE.out HS8.out HA8.out (by simp;omega)).mono ?_);rintro e w9 ⟨rfl,hi9,hk9⟩;have HI9:=hid hi9;have HK9:=hid (Kept.trans HK8.out hk9);have hx9:=hk9.below;clear hi9 hk9;have XB':=hid (Below.trans (Hid.out XB) (hx9));clear XB;have XB:=XB';clear XB'));refine hK _ _ (by first | assumption | exact Below.refl _ _ | exact Below.mono (Ext.alloc _ _) (Hid.out HSW) | exact Below.setCell (p:=⟨_,_,_⟩) (Below.refl _ _) (Nat.le_refl _) _) ?_;clear hK K;try simp only [Act.put,evp]))
          refine zaH ?_
          go_wp2
          exact ⟨⟨j+1,acc++[92,d1,d2],by omega,by go_num,by simp;omega,⟨by rw [← List.append_assoc];exact HI9.out,Kept.trans HXD.out HK9.out⟩,HX'⟩,by simp [intOf];omega⟩
        ·have HP':=hid (HP.out rfl hu)
         clear HE HP HX hu
         go_wp2_with (first
          | (go_at_call 139;(with_reducible refine (zaV _ _ x (zbu _) _ HM.out).mono ?_);rintro e w4 ⟨rfl,rfl⟩)
          | (go_at_call 107;(with_reducible refine (zdt x HI.out.1 (by simp;omega)).mono ?_);rintro e w5 ⟨rfl,hi5,hx5⟩;have HI5:=hid hi5;have HX5:=hid hx5;clear hi5 hx5))
         exact ⟨⟨j+1,acc++[x],by omega,by go_num,by simp;omega,⟨by rw [← List.append_assoc];exact HI5.out,Kept.trans HI.out.2 HX5.out⟩,HP'⟩,by simp [intOf];omega⟩)
  ·obtain rfl:j=s.size:=by omega
   have HF:Hid (zaA true (bys s)=acc):=by show _=_;rw [← HR.out,zbT (Nat.le_refl _)];simp [zaA]
   go_wp2
   go_end0
   exact ⟨rfl,by rw [HF.out];exact HI.out.1,HI.out.2⟩
theorem zo0 (s:ByteArray) (w:World) (hs:s.size≤4000000):Calls Tryz.prog 135 #[.string s] w (zgs w (za9 (bys s))):=by
 have Hs:=hid hs
 by_cases hz:s.size=0
 ·have e1:=zcf hz
  have HV:Hid (za9 (bys s)=readF [] (bys s)):=by rw [zbt hz];rfl
  clear hz
  go_enter Tryz.func135,Tryz.ntmps135
  go_wp2
  go_loopw [5] (fun i wr=>∃ (j:Nat) (acc:List UInt8),j≤s.size∧i=.int .i64 j∧acc.length≤j∧Hid (IsB w.heap.size w.heap.size acc wr)∧Hid (readF acc ((bys s).drop j)=readF [] (bys s))∧Hid (Below w.heap.size w wr)) (fun i _=>s.size-(intOf i).toNat)
  case atStart=>exact ⟨0,[],by omega,rfl,by simp,zlH w,by simp [Hid],Ext.alloc _ _⟩
  case round=>
   obtain ⟨j,acc,hj,rfl,hacc,HI,HR,HX⟩:=hrel
   by_cases hlt:j<s.size
   ·obtain ⟨x,hx⟩:=zcq hlt
    have gx:=za0 hx hlt
    have hd:=hid (zc0 hx)
    clear hx
    by_cases h92:x=92
    ·have t92:((x.toNat:Int) != 92)=false:=by rw [h92];rfl
     by_cases hl1:j+1<s.size
     ·have hl1':(j:Int)+1<(s.size:Int):=by omega
      obtain ⟨y,hy⟩:=zcq hl1
      have gy:=za0 hy hl1
      have hd1:=zc0 hy
      clear hy
      cases hsp:zia y with
      | true=>
       have HM:=hid ((zfS y).1 hsp)
       have HH:Hid (readF (acc++[y]) ((bys s).drop (j+1+1))=readF [] (bys s)):=by show _=_;rw [← HR.out,hd.out,hd1,h92,zgt hsp]
       clear h92 hsp hd1
       go_wp2_with (first
        | (go_at_call 139;(with_reducible refine (zb1 _ _ y (zbu _) _ HM.out).mono ?_);rintro e w4 ⟨⟨i,rfl⟩,rfl⟩;have hi0:0≤(i:Int):=by omega)
        | (go_at_call 107;(with_reducible refine (zb2 y HI.out (by omega)).mono ?_);rintro e w5 ⟨rfl,hi5,hx5⟩;have HI5:=hid hi5;have HX5:=hid hx5;clear hi5 hx5))
       exact ⟨⟨j+2,acc++[y],by omega,by go_num,by simp;omega,HI5,HH,Below.trans HX.out HX5.out⟩,by simp [intOf];omega⟩
      | false=>
       have HM:Hid (y ∉ ([44,43,34,92,60,62,59,35,61,32]:List UInt8)):=fun h=>by have:=(zfS y).2 h;rw [hsp] at this;cases this
       by_cases hl2:j+2<s.size
       ·have hl2':(j:Int)+2<(s.size:Int):=by omega
        obtain ⟨z,hz⟩:=zcq hl2
        have gz:=za0 hz hl2
        have hd2:=zc0 hz
        clear hz
        have hH:=zg7 (acc:=acc) (t:=(bys s).drop (j+2+1)) (d:=y) (e:=z) hsp
        by_cases hy0:hexZ y<0
        ·have HF:Hid (readF [] (bys s)=none):=by show _=_;rw [← HR.out,hd.out,hd1,hd2,h92,hH,zeO hy0]
         clear h92 hsp hd1 hd2 hH
         go_wp2_with (first
          | (go_at_call 139;(with_reducible refine (zaV _ _ y (zbu _) _ HM.out).mono ?_);rintro e w4 ⟨rfl,rfl⟩)
          | (go_at_call 161;(with_reducible refine (zbp y _).mono ?_);rintro e w5 ⟨rfl,hx5⟩;have HX5:=hid hx5;clear hx5))
         go_ret2
         exact ⟨by rw [HV.out,HF.out];rfl,Below.trans HX.out (Below.mono HX5.out HI.out.le)⟩
        ·obtain ⟨a,ha1,ha2,ha3⟩:=zeK hy0
         by_cases hz0:hexZ z<0
         ·have HF:Hid (readF [] (bys s)=none):=by show _=_;rw [← HR.out,hd.out,hd1,hd2,h92,hH,ha1,zeO hz0]
          clear h92 hsp hd1 hd2 hH ha1 ha2 ha3
          go_wp2_with (first
           | (go_at_call 139;(with_reducible refine (zaV _ _ y (zbu _) _ HM.out).mono ?_);rintro e w4 ⟨rfl,rfl⟩)
           | (go_at_call 161;(with_reducible refine (zbp y _).mono ?_);rintro e w5 ⟨rfl,hx5⟩;have HX5:=hid hx5;clear hx5)
           | (go_at_call 161;(with_reducible refine (zbp z _).mono ?_);rintro e w6 ⟨rfl,hx6⟩;have HX6:=hid hx6;clear hx6))
          go_ret2
          exact ⟨by rw [HV.out,HF.out];rfl,Below.trans HX.out (Below.mono (HX5.out.trans HX6.out) HI.out.le)⟩
         ·obtain ⟨b,hb1,hb2,hb3⟩:=zeK hz0
          have HH:Hid (readF (acc++[UInt8.ofNat (16 * a+b)]) ((bys s).drop (j+2+1))=readF [] (bys s)):=by show _=_;rw [← HR.out,hd.out,hd1,hd2,h92,hH,ha1,hb1]
          have HA:=hid ha2
          have HB:=hid hb2
          obtain ⟨q,hq⟩:∃ q,q=UInt8.ofNat (16 * a+b):=⟨_,rfl⟩
          rw [← hq] at HH
          have hov:bits BinOp.or IntKind.i64 ((a:Int) * 16) (b:Int) % 256=(q.toNat:Int):=by
           have h1:=zrE a ha3 b hb3
           rw [Int.natCast_mul,Int.mul_comm] at h1
           have h2:(((16:Nat):Int))=16:=rfl
           rw [h2] at h1
           rw [h1,hq,UInt8.toNat_ofNat']
           omega
          clear hq
          have ta:¬ (a:Int)<0:=by omega
          have tb:¬ (b:Int)<0:=by omega
          clear h92 hsp hd1 hd2 hH ha1 hb1 hy0 hz0 ha2 hb2
          go_wp2_with (first
           | (go_at_call 139;(with_reducible refine (zaV _ _ y (zbu _) _ HM.out).mono ?_);rintro e w4 ⟨rfl,rfl⟩)
           | (go_at_call 161;(with_reducible refine (zbp y _).mono ?_);rintro e w5 ⟨he5,hx5⟩;rw [HA.out] at he5;subst he5;have HX5:=hid hx5;clear hx5)
           | (go_at_call 161;(with_reducible refine (zbp z _).mono ?_);rintro e w6 ⟨he6,hx6⟩;rw [HB.out] at he6;subst he6;have HX6:=hid hx6;clear hx6))
          have HI6:=hid (HI.out.ext (HX5.out.trans HX6.out))
          have HX0:=hid (Below.trans HX.out (Below.mono (HX5.out.trans HX6.out) HI.out.le))
          refine zaq w.heap.size (.read 0 (.read 1 (.read 2 (.read 3 (.read 6 (.read 7 (.read 8 (.read 9 (.main 4 (.read 5 (.main 10 (.read 11 (.read 12 (.main 13 .done)))))))))))))) (by kernel_rfl) (by kernel_rfl) ?_
          intro wD hxD
          have XB:Hid (Below w.heap.size wD wD):=Below.refl _ _
          have HID:=hid (HI6.out.ext hxD)
          have HXD:=hid (Below.trans HX0.out (Below.mono hxD HI6.out.le))
          have hle:=hid HID.out.le
          have p1:0≤(j:Int)+1:=by omega
          have p2:0≤(j:Int)+2:=by omega
          repeat' (first
           | ((first | refine zaI rfl rfl ?_ | refine zaw rfl rfl ?_ | refine walksB_skip rfl rfl ?_);simp only [Act.put,Act.eval,evs])
           | (refine walksB_unwanted rfl rfl ?_;simp only [Act.put,evp])
           | (refine zaC (v:=?_) rfl rfl (fun w' hE=>?_) ?_;rotate_left 1;(· ((try (have hEx:=Below.trans (Hid.out XB) hE));go_simp;(try go_bits);with_reducible rfl));simp only [Act.put,evp])
           | (refine zaQ ?_ ?_)
           | (refine zam rfl rfl (fun K hK=>?_);go_wp2_with (first | (go_at_call 161;(with_reducible refine (zbp y _).mono ?_);rintro e w7 ⟨he7,hx7⟩;rw [HA.out] at he7;subst he7;have hx7':=Below.mono hx7 (Nat.le_trans hle.out (Below.size XB.out));have HID':=hid (HID.out.ext hx7);clear HID hx7;have HID:=HID';clear HID';have XB':=hid (Below.trans (Hid.out XB) (hx7'));clear XB;have XB:=XB';clear XB') | (go_at_call 161;(with_reducible refine (zbp z _).mono ?_);rintro e w8 ⟨he8,hx8⟩;rw [HB.out] at he8;subst he8;have hx8':=Below.mono hx8 (Nat.le_trans hle.out (Below.size XB.out));have HID':=hid (HID.out.ext hx8);clear HID hx8;have HID:=HID';clear HID';have XB':=hid (Below.trans (Hid.out XB) (hx8'));clear XB;have XB:=XB';clear XB') | (go_at_call 107;(with_reducible refine (zb2 q HID.out (by omega)).mono ?_);rintro e w9 ⟨rfl,hi9,hx9⟩;have HI9:=hid hi9;clear hi9;have XB':=hid (Below.trans (Hid.out XB) (hx9));clear XB;have XB:=XB';clear XB'));refine hK _ _ (by first | assumption | exact Below.refl _ _ | exact Below.mono (Ext.alloc _ _) (Hid.out HSW) | exact Below.setCell (p:=⟨_,_,_⟩) (Below.refl _ _) (Nat.le_refl _) _) ?_;clear hK K;try simp only [Act.put,evp]))
          refine zaH ?_
          go_wp2
          exact ⟨⟨j+3,acc++[q],by omega,by go_num,by simp;omega,HI9,HH,Below.trans HXD.out XB.out⟩,by simp [intOf];omega⟩
       ·have hl2':¬ (j:Int)+2<(s.size:Int):=by omega
        have HF:Hid (readF [] (bys s)=none):=by show _=_;rw [← HR.out,hd.out,hd1,h92,show (bys s).drop (j+1+1)=[] from zbT (by omega),zgf hsp]
        clear h92 hsp hd1
        go_wp2_with (first
         | (go_at_call 139;(with_reducible refine (zaV _ _ y (zbu _) _ HM.out).mono ?_);rintro e w4 ⟨rfl,rfl⟩))
        go_ret2
        exact ⟨by rw [HV.out,HF.out];rfl,HX.out⟩
     ·have hl1':¬ (j:Int)+1<(s.size:Int):=by omega
      have hl2':¬ (j:Int)+2<(s.size:Int):=by omega
      have HF:Hid (readF [] (bys s)=none):=by show _=_;rw [← HR.out,hd.out,h92,show (bys s).drop (j+1)=[] from zbT (by omega),zhY]
      clear h92
      go_wp2
      go_ret2
      exact ⟨by rw [HV.out,HF.out];rfl,HX.out⟩
    ·have t92:((x.toNat:Int) != 92)=true:=by
      have h:((x.toNat:Int)==92)=false:=zau (k:=92) h92
      rw [bne,h];rfl
     have hP:=zfk (acc:=acc) (t:=(bys s).drop (j+1)) h92
     by_cases h0:x=0
     ·have t0:((x.toNat:Int)==0)=true:=za6 (k:=0) (by decide) h0
      have HF:Hid (readF [] (bys s)=none):=by show _=_;rw [← HR.out,hd.out,hP,if_pos (by rw [h0];rfl)]
      clear h92 h0 hP
      go_wp2
      go_ret2
      exact ⟨by rw [HV.out,HF.out];rfl,HX.out⟩
     ·have t0:((x.toNat:Int)==0)=false:=zau (k:=0) h0
      cases hsp:zbs x with
      | true=>
       have HM:=hid ((zeI x).1 hsp)
       have HF:Hid (readF [] (bys s)=none):=by show _=_;rw [← HR.out,hd.out,hP,if_pos (by rw [hsp];simp)]
       clear h92 h0 hP hsp
       go_wp2_with (first
        | (go_at_call 139;(with_reducible refine (zb1 _ _ x (zbu _) _ HM.out).mono ?_);rintro e w4 ⟨⟨i,rfl⟩,rfl⟩;have hi0:0≤(i:Int):=by omega))
       go_ret2
       exact ⟨by rw [HV.out,HF.out];rfl,HX.out⟩
      | false=>
       have HM:Hid (x ∉ ([44,43,34,92,60,62,59]:List UInt8)):=fun h=>by have:=(zeI x).2 h;rw [hsp] at this;cases this
       have hemp:((bys s).drop (j+1)).isEmpty=decide (j+1=s.size):=by
        rw [Bool.eq_iff_iff,List.isEmpty_iff,decide_eq_true_eq,List.drop_eq_nil_iff,zaf]
        omega
       by_cases h32:x=32∧j+1=s.size
       ·have t32:((x.toNat:Int)==32)=true:=za6 (k:=32) (by decide) h32.1
        have te:((j:Int)==(s.size:Int)-1)=true:=by rw [beq_iff_eq];omega
        have HF:Hid (readF [] (bys s)=none):=by show _=_;rw [← HR.out,hd.out,hP,if_pos (by rw [hemp,h32.1,decide_eq_true h32.2];rfl)]
        clear h92 h0 hP hsp hemp h32
        go_wp2_with (first
         | (go_at_call 139;(with_reducible refine (zaV _ _ x (zbu _) _ HM.out).mono ?_);rintro e w4 ⟨rfl,rfl⟩))
        go_ret2
        exact ⟨by rw [HV.out,HF.out];rfl,HX.out⟩
       ·have HH:Hid (readF (acc++[x]) ((bys s).drop (j+1))=readF [] (bys s)):=by
         show _=_
         rw [← HR.out,hd.out,hP,if_neg]
         rw [hemp,hsp]
         simp [h0]
         exact fun e=>fun e2=>h32 ⟨e,e2⟩
        have t32:((x.toNat:Int)==32)=false∨(((x.toNat:Int)==32)=true∧((j:Int)==(s.size:Int)-1)=false):=by
         by_cases h3:x=32
         ·right
          refine ⟨za6 (k:=32) (by decide) h3,?_⟩
          rw [beq_eq_false_iff_ne]
          intro e
          exact h32 ⟨h3,by omega⟩
         ·exact .inl (zau (k:=32) h3)
        clear h92 h0 hP hsp hemp h32
        rcases t32 with t32 | ⟨t32,te⟩
        all_goals
         go_wp2_with (first
          | (go_at_call 139;(with_reducible refine (zaV _ _ x (zbu _) _ HM.out).mono ?_);rintro e w4 ⟨rfl,rfl⟩)
          | (go_at_call 107;(with_reducible refine (zb2 x HI.out (by omega)).mono ?_);rintro e w5 ⟨rfl,hi5,hx5⟩;have HI5:=hid hi5;have HX5:=hid hx5;clear hi5 hx5))
         exact ⟨⟨j+1,acc++[x],by omega,by go_num,by simp;omega,HI5,HH,Below.trans HX.out HX5.out⟩,by simp [intOf];omega⟩
   ·obtain rfl:j=s.size:=by omega
    have HF:Hid (readF [] (bys s)=some acc):=by show _=_;rw [← HR.out,zbT (Nat.le_refl _)];rfl
    go_wp2_with (go_at_call 81;(with_reducible refine (zgz HI.out).mono ?_);rintro e w4 ⟨rfl,hx4⟩;have HX4:=hid hx4;clear hx4)
    go_ret2
    exact ⟨by rw [HV.out,HF.out];rfl,Below.trans HX.out HX4.out⟩
 ·have e1:=zdn hz
  have hsz:0<s.size:=by omega
  obtain ⟨y,hy⟩:=zcq hsz
  have gy:=za0 hy hsz
  have hhd:(bys s).head?=some y:=by rw [List.head?_eq_getElem?,hy]
  clear hy
  by_cases h32:y=32
  ·have t32:((y.toNat:Int)==32)=true:=za6 (k:=32) (by decide) h32
   have HV:Hid (za9 (bys s)=none):=by show _=_;unfold za9;rw [hhd,h32,if_pos (.inl rfl)]
   clear hhd hz h32
   go_enter Tryz.func135,Tryz.ntmps135
   go_wp2
   go_ret2
   exact ⟨by rw [HV.out];rfl,Ext.alloc _ _⟩
  ·have t32:((y.toNat:Int)==32)=false:=zau (k:=32) h32
   by_cases h35:y=35
   ·have t35:((y.toNat:Int)==35)=true:=za6 (k:=35) (by decide) h35
    have HV:Hid (za9 (bys s)=none):=by show _=_;unfold za9;rw [hhd,h35,if_pos (.inr rfl)]
    clear hhd hz h32 h35
    go_enter Tryz.func135,Tryz.ntmps135
    go_wp2
    go_ret2
    exact ⟨by rw [HV.out];rfl,Ext.alloc _ _⟩
   ·have t35:((y.toNat:Int)==35)=false:=zau (k:=35) h35
    have HV:Hid (za9 (bys s)=readF [] (bys s)):=by
     show _=_
     unfold za9
     rw [hhd,if_neg]
     rintro (h | h)
     ·injection h with h;exact h32 h
     ·injection h with h;exact h35 h
    clear hhd hz h32 h35
    go_enter Tryz.func135,Tryz.ntmps135
    go_wp2
    go_wp2
    go_loopw [5] (fun i wr=>∃ (j:Nat) (acc:List UInt8),j≤s.size∧i=.int .i64 j∧acc.length≤j∧Hid (IsB w.heap.size w.heap.size acc wr)∧Hid (readF acc ((bys s).drop j)=readF [] (bys s))∧Hid (Below w.heap.size w wr)) (fun i _=>s.size-(intOf i).toNat)
    case atStart=>exact ⟨0,[],by omega,rfl,by simp,zlH w,by simp [Hid],Ext.alloc _ _⟩
    case round=>
     obtain ⟨j,acc,hj,rfl,hacc,HI,HR,HX⟩:=hrel
     by_cases hlt:j<s.size
     ·obtain ⟨x,hx⟩:=zcq hlt
      have gx:=za0 hx hlt
      have hd:=hid (zc0 hx)
      clear hx
      by_cases h92:x=92
      ·have t92:((x.toNat:Int) != 92)=false:=by rw [h92];rfl
       by_cases hl1:j+1<s.size
       ·have hl1':(j:Int)+1<(s.size:Int):=by omega
        obtain ⟨y,hy⟩:=zcq hl1
        have gy:=za0 hy hl1
        have hd1:=zc0 hy
        clear hy
        cases hsp:zia y with
        | true=>
         have HM:=hid ((zfS y).1 hsp)
         have HH:Hid (readF (acc++[y]) ((bys s).drop (j+1+1))=readF [] (bys s)):=by show _=_;rw [← HR.out,hd.out,hd1,h92,zgt hsp]
         clear h92 hsp hd1
         go_wp2_with (first
          | (go_at_call 139;(with_reducible refine (zb1 _ _ y (zbu _) _ HM.out).mono ?_);rintro e w4 ⟨⟨i,rfl⟩,rfl⟩;have hi0:0≤(i:Int):=by omega)
          | (go_at_call 107;(with_reducible refine (zb2 y HI.out (by omega)).mono ?_);rintro e w5 ⟨rfl,hi5,hx5⟩;have HI5:=hid hi5;have HX5:=hid hx5;clear hi5 hx5))
         exact ⟨⟨j+2,acc++[y],by omega,by go_num,by simp;omega,HI5,HH,Below.trans HX.out HX5.out⟩,by simp [intOf];omega⟩
        | false=>
         have HM:Hid (y ∉ ([44,43,34,92,60,62,59,35,61,32]:List UInt8)):=fun h=>by have:=(zfS y).2 h;rw [hsp] at this;cases this
         by_cases hl2:j+2<s.size
         ·have hl2':(j:Int)+2<(s.size:Int):=by omega
          obtain ⟨z,hz⟩:=zcq hl2
          have gz:=za0 hz hl2
          have hd2:=zc0 hz
          clear hz
          have hH:=zg7 (acc:=acc) (t:=(bys s).drop (j+2+1)) (d:=y) (e:=z) hsp
          by_cases hy0:hexZ y<0
          ·have HF:Hid (readF [] (bys s)=none):=by show _=_;rw [← HR.out,hd.out,hd1,hd2,h92,hH,zeO hy0]
           clear h92 hsp hd1 hd2 hH
           go_wp2_with (first
            | (go_at_call 139;(with_reducible refine (zaV _ _ y (zbu _) _ HM.out).mono ?_);rintro e w4 ⟨rfl,rfl⟩)
            | (go_at_call 161;(with_reducible refine (zbp y _).mono ?_);rintro e w5 ⟨rfl,hx5⟩;have HX5:=hid hx5;clear hx5))
           go_ret2
           exact ⟨by rw [HV.out,HF.out];rfl,Below.trans HX.out (Below.mono HX5.out HI.out.le)⟩
          ·obtain ⟨a,ha1,ha2,ha3⟩:=zeK hy0
           by_cases hz0:hexZ z<0
           ·have HF:Hid (readF [] (bys s)=none):=by show _=_;rw [← HR.out,hd.out,hd1,hd2,h92,hH,ha1,zeO hz0]
            clear h92 hsp hd1 hd2 hH ha1 ha2 ha3
            go_wp2_with (first
             | (go_at_call 139;(with_reducible refine (zaV _ _ y (zbu _) _ HM.out).mono ?_);rintro e w4 ⟨rfl,rfl⟩)
             | (go_at_call 161;(with_reducible refine (zbp y _).mono ?_);rintro e w5 ⟨rfl,hx5⟩;have HX5:=hid hx5;clear hx5)
             | (go_at_call 161;(with_reducible refine (zbp z _).mono ?_);rintro e w6 ⟨rfl,hx6⟩;have HX6:=hid hx6;clear hx6))
            go_ret2
            exact ⟨by rw [HV.out,HF.out];rfl,Below.trans HX.out (Below.mono (HX5.out.trans HX6.out) HI.out.le)⟩
           ·obtain ⟨b,hb1,hb2,hb3⟩:=zeK hz0
            have HH:Hid (readF (acc++[UInt8.ofNat (16 * a+b)]) ((bys s).drop (j+2+1))=readF [] (bys s)):=by show _=_;rw [← HR.out,hd.out,hd1,hd2,h92,hH,ha1,hb1]
            have HA:=hid ha2
            have HB:=hid hb2
            obtain ⟨q,hq⟩:∃ q,q=UInt8.ofNat (16 * a+b):=⟨_,rfl⟩
            rw [← hq] at HH
            have hov:bits BinOp.or IntKind.i64 ((a:Int) * 16) (b:Int) % 256=(q.toNat:Int):=by
             have h1:=zrE a ha3 b hb3
             rw [Int.natCast_mul,Int.mul_comm] at h1
             have h2:(((16:Nat):Int))=16:=rfl
             rw [h2] at h1
             rw [h1,hq,UInt8.toNat_ofNat']
             omega
            clear hq
            have ta:¬ (a:Int)<0:=by omega
            have tb:¬ (b:Int)<0:=by omega
            clear h92 hsp hd1 hd2 hH ha1 hb1 hy0 hz0 ha2 hb2
            go_wp2_with (first
             | (go_at_call 139;(with_reducible refine (zaV _ _ y (zbu _) _ HM.out).mono ?_);rintro e w4 ⟨rfl,rfl⟩)
             | (go_at_call 161;(with_reducible refine (zbp y _).mono ?_);rintro e w5 ⟨he5,hx5⟩;rw [HA.out] at he5;subst he5;have HX5:=hid hx5;clear hx5)
             | (go_at_call 161;(with_reducible refine (zbp z _).mono ?_);rintro e w6 ⟨he6,hx6⟩;rw [HB.out] at he6;subst he6;have HX6:=hid hx6;clear hx6))
            have HI6:=hid (HI.out.ext (HX5.out.trans HX6.out))
            have HX0:=hid (Below.trans HX.out (Below.mono (HX5.out.trans HX6.out) HI.out.le))
            refine zaq w.heap.size (.read 0 (.read 1 (.read 2 (.read 3 (.read 6 (.read 7 (.read 8 (.read 9 (.main 4 (.read 5 (.main 10 (.read 11 (.read 12 (.main 13 .done)))))))))))))) (by kernel_rfl) (by kernel_rfl) ?_
            intro wD hxD
            have XB:Hid (Below w.heap.size wD wD):=Below.refl _ _
            have HID:=hid (HI6.out.ext hxD)
            have HXD:=hid (Below.trans HX0.out (Below.mono hxD HI6.out.le))
            have hle:=hid HID.out.le
            have p1:0≤(j:Int)+1:=by omega
            have p2:0≤(j:Int)+2:=by omega
            repeat' (first
             | ((first | refine zaI rfl rfl ?_ | refine zaw rfl rfl ?_ | refine walksB_skip rfl rfl ?_);simp only [Act.put,Act.eval,evs])
             | (refine walksB_unwanted rfl rfl ?_;simp only [Act.put,evp])
             | (refine zaC (v:=?_) rfl rfl (fun w' hE=>?_) ?_;rotate_left 1;(· ((try (have hEx:=Below.trans (Hid.out XB) hE));go_simp;(try go_bits);with_reducible rfl));simp only [Act.put,evp])
             | (refine zaQ ?_ ?_)
             | (refine zam rfl rfl (fun K hK=>?_);go_wp2_with (first | (go_at_call 161;(with_reducible refine (zbp y _).mono ?_);rintro e w7 ⟨he7,hx7⟩;rw [HA.out] at he7;subst he7;have hx7':=Below.mono hx7 (Nat.le_trans hle.out (Below.size XB.out));have HID':=hid (HID.out.ext hx7);clear HID hx7;have HID:=HID';clear HID';have XB':=hid (Below.trans (Hid.out XB) (hx7'));clear XB;have XB:=XB';clear XB') | (go_at_call 161;(with_reducible refine (zbp z _).mono ?_);rintro e w8 ⟨he8,hx8⟩;rw [HB.out] at he8;subst he8;have hx8':=Below.mono hx8 (Nat.le_trans hle.out (Below.size XB.out));have HID':=hid (HID.out.ext hx8);clear HID hx8;have HID:=HID';clear HID';have XB':=hid (Below.trans (Hid.out XB) (hx8'));clear XB;have XB:=XB';clear XB') | (go_at_call 107;(with_reducible refine (zb2 q HID.out (by omega)).mono ?_);rintro e w9 ⟨rfl,hi9,hx9⟩;have HI9:=hid hi9;clear hi9;have XB':=hid (Below.trans (Hid.out XB) (hx9));clear XB;have XB:=XB';clear XB'));refine hK _ _ (by first | assumption | exact Below.refl _ _ | exact Below.mono (Ext.alloc _ _) (Hid.out HSW) | exact Below.setCell (p:=⟨_,_,_⟩) (Below.refl _ _) (Nat.le_refl _) _) ?_;clear hK K;try simp only [Act.put,evp]))
            refine zaH ?_
            go_wp2
            exact ⟨⟨j+3,acc++[q],by omega,by go_num,by simp;omega,HI9,HH,Below.trans HXD.out XB.out⟩,by simp [intOf];omega⟩
         ·have hl2':¬ (j:Int)+2<(s.size:Int):=by omega
          have HF:Hid (readF [] (bys s)=none):=by show _=_;rw [← HR.out,hd.out,hd1,h92,show (bys s).drop (j+1+1)=[] from zbT (by omega),zgf hsp]
          clear h92 hsp hd1
          go_wp2_with (first
           | (go_at_call 139;(with_reducible refine (zaV _ _ y (zbu _) _ HM.out).mono ?_);rintro e w4 ⟨rfl,rfl⟩))
          go_ret2
          exact ⟨by rw [HV.out,HF.out];rfl,HX.out⟩
       ·have hl1':¬ (j:Int)+1<(s.size:Int):=by omega
        have hl2':¬ (j:Int)+2<(s.size:Int):=by omega
        have HF:Hid (readF [] (bys s)=none):=by show _=_;rw [← HR.out,hd.out,h92,show (bys s).drop (j+1)=[] from zbT (by omega),zhY]
        clear h92
        go_wp2
        go_ret2
        exact ⟨by rw [HV.out,HF.out];rfl,HX.out⟩
      ·have t92:((x.toNat:Int) != 92)=true:=by
        have h:((x.toNat:Int)==92)=false:=zau (k:=92) h92
        rw [bne,h];rfl
       have hP:=zfk (acc:=acc) (t:=(bys s).drop (j+1)) h92
       by_cases h0:x=0
       ·have t0:((x.toNat:Int)==0)=true:=za6 (k:=0) (by decide) h0
        have HF:Hid (readF [] (bys s)=none):=by show _=_;rw [← HR.out,hd.out,hP,if_pos (by rw [h0];rfl)]
        clear h92 h0 hP
        go_wp2
        go_ret2
        exact ⟨by rw [HV.out,HF.out];rfl,HX.out⟩
       ·have t0:((x.toNat:Int)==0)=false:=zau (k:=0) h0
        cases hsp:zbs x with
        | true=>
         have HM:=hid ((zeI x).1 hsp)
         have HF:Hid (readF [] (bys s)=none):=by show _=_;rw [← HR.out,hd.out,hP,if_pos (by rw [hsp];simp)]
         clear h92 h0 hP hsp
         go_wp2_with (first
          | (go_at_call 139;(with_reducible refine (zb1 _ _ x (zbu _) _ HM.out).mono ?_);rintro e w4 ⟨⟨i,rfl⟩,rfl⟩;have hi0:0≤(i:Int):=by omega))
         go_ret2
         exact ⟨by rw [HV.out,HF.out];rfl,HX.out⟩
        | false=>
         have HM:Hid (x ∉ ([44,43,34,92,60,62,59]:List UInt8)):=fun h=>by have:=(zeI x).2 h;rw [hsp] at this;cases this
         have hemp:((bys s).drop (j+1)).isEmpty=decide (j+1=s.size):=by
          rw [Bool.eq_iff_iff,List.isEmpty_iff,decide_eq_true_eq,List.drop_eq_nil_iff,zaf]
          omega
         by_cases h32:x=32∧j+1=s.size
         ·have t32:((x.toNat:Int)==32)=true:=za6 (k:=32) (by decide) h32.1
          have te:((j:Int)==(s.size:Int)-1)=true:=by rw [beq_iff_eq];omega
          have HF:Hid (readF [] (bys s)=none):=by show _=_;rw [← HR.out,hd.out,hP,if_pos (by rw [hemp,h32.1,decide_eq_true h32.2];rfl)]
          clear h92 h0 hP hsp hemp h32
          go_wp2_with (first
           | (go_at_call 139;(with_reducible refine (zaV _ _ x (zbu _) _ HM.out).mono ?_);rintro e w4 ⟨rfl,rfl⟩))
          go_ret2
          exact ⟨by rw [HV.out,HF.out];rfl,HX.out⟩
         ·have HH:Hid (readF (acc++[x]) ((bys s).drop (j+1))=readF [] (bys s)):=by
           show _=_
           rw [← HR.out,hd.out,hP,if_neg]
           rw [hemp,hsp]
           simp [h0]
           exact fun e=>fun e2=>h32 ⟨e,e2⟩
          have t32:((x.toNat:Int)==32)=false∨(((x.toNat:Int)==32)=true∧((j:Int)==(s.size:Int)-1)=false):=by
           by_cases h3:x=32
           ·right
            refine ⟨za6 (k:=32) (by decide) h3,?_⟩
            rw [beq_eq_false_iff_ne]
            intro e
            exact h32 ⟨h3,by omega⟩
           ·exact .inl (zau (k:=32) h3)
          clear h92 h0 hP hsp hemp h32
          rcases t32 with t32 | ⟨t32,te⟩
          all_goals
           go_wp2_with (first
            | (go_at_call 139;(with_reducible refine (zaV _ _ x (zbu _) _ HM.out).mono ?_);rintro e w4 ⟨rfl,rfl⟩)
            | (go_at_call 107;(with_reducible refine (zb2 x HI.out (by omega)).mono ?_);rintro e w5 ⟨rfl,hi5,hx5⟩;have HI5:=hid hi5;have HX5:=hid hx5;clear hi5 hx5))
           exact ⟨⟨j+1,acc++[x],by omega,by go_num,by simp;omega,HI5,HH,Below.trans HX.out HX5.out⟩,by simp [intOf];omega⟩
     ·obtain rfl:j=s.size:=by omega
      have HF:Hid (readF [] (bys s)=some acc):=by show _=_;rw [← HR.out,zbT (Nat.le_refl _)];rfl
      go_wp2_with (go_at_call 81;(with_reducible refine (zgz HI.out).mono ?_);rintro e w4 ⟨rfl,hx4⟩;have HX4:=hid hx4;clear hx4)
      go_ret2
      exact ⟨by rw [HV.out,HF.out];rfl,Below.trans HX.out HX4.out⟩
theorem zlc {s:ByteArray} {x:UInt8} (h:(bys s)[0]?=some x):(bys s).head?=some x:=by rw [List.head?_eq_getElem?,h]
theorem zlN {w:World} {o:Oper} {a:Act} {K:Act→World→Prop} {Q:Exit→Act→World→Prop} (x:Operand) (ho:o.op=.buildSlice 129 1 #[(0,x)]) (q:UInt8) (hx:a.eval x=.int .u8 (q.toNat:Int))
 (h:∀ A w',Ext w w'→Sl w' A 1 1 [q]→K (a.put o.dst (.slice A 1 1)) w'):o.wp Tryz.prog a w K Q:=
 zsy x ho (q.toNat:Int) hx ⟨by omega,by have:=q.toNat_lt;omega⟩ fun A w' h1 h2=>h A w' h1 (by rw [Int.toNat_natCast,UInt8.ofNat_toNat] at h2;exact h2)
theorem zqQ (s:ByteArray) (w:World) (hs:s.size≤4000000):Calls Tryz.prog 166 #[.string s] w (zgs w (za9 (bys s))):=by
 have Hs:=hid hs
 go_enter Tryz.func166,Tryz.ntmps166
 go_wp2
 go_loopw [4,5] (fun v i wr=>∃ (j:Nat) (acc:List UInt8),j≤s.size∧i=.int .i64 j∧acc.length≤j∧Hid (GrowB w wr v acc)∧Hid ((j=0∧acc=[])∨(0<j∧readF acc ((bys s).drop j)=za9 (bys s)))) (fun _ i _=>s.size-(intOf i).toNat)
 case atStart=>exact ⟨0,[],by omega,rfl,by simp,GrowB.nil (Ext.refl _),.inl ⟨rfl,rfl⟩⟩
 case round=>
  obtain ⟨j,acc,hj,rfl,hacc,HG,HR0⟩:=hrel
  by_cases hlt:j<s.size
  ·obtain ⟨x,hx⟩:=zcq hlt
   have gx:=za0 hx hlt
   have hd:=hid (zc0 hx)
   have t0j:((j:Int)==0)=decide (j=0):=by rw [Bool.eq_iff_iff,beq_iff_eq,decide_eq_true_eq];omega
   by_cases hbad:j=0∧(x=32∨x=35)
   ·have HV:Hid (za9 (bys s)=none):=by
     show _=_
     unfold za9
     rw [zlc (by rw [← hbad.1];exact hx),if_pos]
     rcases hbad.2 with h | h
     ·exact .inl (by rw [h])
     ·exact .inr (by rw [h])
    obtain ⟨h0,hc⟩:=hbad
    have tj:((j:Int)==0)=true:=by rw [h0];rfl
    have HSP:Hid (zbs x=false):=by rcases hc with rfl | rfl <;> rfl
    have t92:((x.toNat:Int) != 92)=true:=by rcases hc with rfl | rfl <;> rfl
    have t0:((x.toNat:Int)==0)=false:=by rcases hc with rfl | rfl <;> rfl
    have tc:((x.toNat:Int)==32)=true∨(((x.toNat:Int)==32)=false∧((x.toNat:Int)==35)=true):=by rcases hc with rfl | rfl;exact .inl rfl;exact .inr ⟨rfl,rfl⟩
    clear hx t0j h0 hc
    rcases tc with tc | ⟨tc,td⟩
    all_goals
     go_wp2_with (first
      | (go_at_call 147;(with_reducible refine (za5 x _).mono ?_);rintro e w4 ⟨he4,rfl⟩;rw [HSP.out] at he4;subst he4))
     go_ret2
     exact ⟨by rw [HV.out];rfl,HG.out.ext⟩
   ·have HR:Hid (readF acc ((bys s).drop j)=za9 (bys s)):=by
     rcases HR0.out with ⟨h0,ha⟩ | ⟨_,h⟩
     ·show _=_
      subst ha
      rw [h0,List.drop_zero]
      unfold za9
      rw [zlc (by rw [← h0];exact hx),if_neg]
      rintro (h | h)
      ·injection h with h;exact hbad ⟨h0,.inl h⟩
      ·injection h with h;exact hbad ⟨h0,.inr h⟩
     ·exact h
    clear HR0 hx
    by_cases h92:x=92
    ·have t92:((x.toNat:Int) != 92)=false:=by rw [h92];rfl
     clear hbad t0j
     by_cases hl1:j+1<s.size
     ·have hl1':(j:Int)+1<(s.size:Int):=by omega
      have p1:0≤(j:Int)+1:=by omega
      obtain ⟨y,hy⟩:=zcq hl1
      have gy:=za0 hy hl1
      have hd1:=zc0 hy
      clear hy
      have hs2:zia y=(zbs y || y==35 || y==61 || y==32):=rfl
      cases hsp:zia y with
      | true=>
       have HH:Hid (readF (acc++[y]) ((bys s).drop (j+1+1))=za9 (bys s)):=by show _=_;rw [← HR.out,hd.out,hd1,h92,zgt hsp]
       have hq:zbs y=true∨(zbs y=false∧((y.toNat:Int)==35)=true)∨(zbs y=false∧((y.toNat:Int)==35)=false∧((y.toNat:Int)==61)=true)∨(zbs y=false∧((y.toNat:Int)==35)=false∧((y.toNat:Int)==61)=false∧((y.toNat:Int)==32)=true):=by
        rw [hs2] at hsp
        cases hb:zbs y with
        | true=>exact .inl rfl
        | false=>
         rw [hb] at hsp
         by_cases h35:y=35
         ·exact .inr (.inl ⟨rfl,za6 (k:=35) (by decide) h35⟩)
         ·by_cases h61:y=61
          ·exact .inr (.inr (.inl ⟨rfl,zau (k:=35) h35,za6 (k:=61) (by decide) h61⟩))
          ·refine .inr (.inr (.inr ⟨rfl,zau (k:=35) h35,zau (k:=61) h61,za6 (k:=32) (by decide) ?_⟩))
           simpa [h35,h61] using hsp
       clear h92 hsp hd1 hs2
       rcases hq with hq | ⟨hq,q1⟩ | ⟨hq,q1,q2⟩ | ⟨hq,q1,q2,q3⟩
       all_goals
        have HSY:=hid hq
        clear hq
        go_wp2_with (first
         | (go_at_call 147;(with_reducible refine (za5 y _).mono ?_);rintro e w4 ⟨he4,rfl⟩;rw [HSY.out] at he4;subst he4)
         | (at_builtin;refine zbC rfl _ _ rfl _ _ rfl (HG.out.later (Ext.alloc _ _)) _ 1 1 [y] rfl (zdS _ y) (by omega) ?_;intro v' w5 hg5;have HG5:=hid hg5;clear hg5))
        exact ⟨⟨j+2,acc++[y],by omega,by go_num,by simp;omega,HG5,.inr ⟨by omega,HH⟩⟩,by simp [intOf];omega⟩
      | false=>
       have hq:zbs y=false∧((y.toNat:Int)==35)=false∧((y.toNat:Int)==61)=false∧((y.toNat:Int)==32)=false:=by
        rw [hs2] at hsp
        simp only [Bool.or_eq_false_iff,beq_eq_false_iff_ne] at hsp
        exact ⟨hsp.1.1.1,zau (k:=35) hsp.1.1.2,zau (k:=61) hsp.1.2,zau (k:=32) hsp.2⟩
       obtain ⟨hq,q1,q2,q3⟩:=hq
       have HSY:=hid hq
       clear hq hs2
       by_cases hl2:j+2<s.size
       ·have hl2':(j:Int)+2<(s.size:Int):=by omega
        have p2:0≤(j:Int)+2:=by omega
        obtain ⟨z,hz⟩:=zcq hl2
        have gz:=za0 hz hl2
        have hd2:=zc0 hz
        clear hz
        have hH:=zg7 (acc:=acc) (t:=(bys s).drop (j+2+1)) (d:=y) (e:=z) hsp
        by_cases hy0:hexZ y<0
        ·have HF:Hid (za9 (bys s)=none):=by show _=_;rw [← HR.out,hd.out,hd1,hd2,h92,hH,zeO hy0]
         obtain ⟨u,hu⟩:∃ u,hexZ y=u:=⟨_,rfl⟩
         rw [hu] at hy0
         have HA:=hid hu
         clear h92 hsp hd1 hd2 hH hu
         go_wp2_with (first
          | (go_at_call 147;(with_reducible refine (za5 y _).mono ?_);rintro e w4 ⟨he4,rfl⟩;rw [HSY.out] at he4;subst he4)
          | (go_at_call 183;(with_reducible refine (zd2 y _).mono ?_);rintro e w5 ⟨he5,rfl⟩;rw [HA.out] at he5;subst he5))
         go_ret2
         exact ⟨by rw [HF.out];rfl,HG.out.ext⟩
        ·obtain ⟨a,ha1,ha2,ha3⟩:=zeK hy0
         have HA:=hid ha2
         have ta:¬ (a:Int)<0:=by omega
         by_cases hz0:hexZ z<0
         ·have HF:Hid (za9 (bys s)=none):=by show _=_;rw [← HR.out,hd.out,hd1,hd2,h92,hH,ha1,zeO hz0]
          obtain ⟨u,hu⟩:∃ u,hexZ z=u:=⟨_,rfl⟩
          rw [hu] at hz0
          have HB:=hid hu
          clear h92 hsp hd1 hd2 hH ha1 ha2 ha3 hy0 hu
          go_wp2_with (first
           | (go_at_call 147;(with_reducible refine (za5 y _).mono ?_);rintro e w4 ⟨he4,rfl⟩;rw [HSY.out] at he4;subst he4)
           | (go_at_call 183;(with_reducible refine (zd2 y _).mono ?_);rintro e w5 ⟨he5,rfl⟩;rw [HA.out] at he5;subst he5)
           | (go_at_call 183;(with_reducible refine (zd2 z _).mono ?_);rintro e w5 ⟨he5,rfl⟩;rw [HB.out] at he5;subst he5))
          go_ret2
          exact ⟨by rw [HF.out];rfl,HG.out.ext⟩
         ·obtain ⟨b,hb1,hb2,hb3⟩:=zeK hz0
          have HB:=hid hb2
          have tb:¬ (b:Int)<0:=by omega
          obtain ⟨q,hq⟩:∃ q,q=UInt8.ofNat (16 * a+b):=⟨_,rfl⟩
          have HH:Hid (readF (acc++[q]) ((bys s).drop (j+2+1))=za9 (bys s)):=by show _=_;rw [← HR.out,hd.out,hd1,hd2,h92,hH,ha1,hb1,hq]
          have hov:16 * (a:Int)+(b:Int)=(q.toNat:Int):=by
           rw [hq,UInt8.toNat_ofNat']
           omega
          clear hq
          clear h92 hsp hd1 hd2 hH ha1 hb1 hy0 hz0 ha2 hb2
          go_wp2_with (first
           | (go_at_call 147;(with_reducible refine (za5 y _).mono ?_);rintro e w4 ⟨he4,rfl⟩;rw [HSY.out] at he4;subst he4)
           | (go_at_call 183;(with_reducible refine (zd2 y _).mono ?_);rintro e w5 ⟨he5,rfl⟩;rw [HA.out] at he5;subst he5)
           | (go_at_call 183;(with_reducible refine (zd2 z _).mono ?_);rintro e w5 ⟨he5,rfl⟩;rw [HB.out] at he5;subst he5))
          refine zaq w.heap.size (.read 0 (.read 1 (.read 2 (.read 3 (.read 4 (.read 7 (.read 8 (.read 9 (.read 10 (.main 5 (.read 6 (.main 11 (.read 12 (.read 13 (.main 14 (.main 15 (.read 16 .done))))))))))))))))) (by kernel_rfl) (by kernel_rfl) ?_
          intro wD hxD
          have XB:Hid (Below w.heap.size wD wD):=Below.refl _ _
          have HGD:=hid (HG.out.later hxD)
          repeat' (first
           | ((first | refine zaI rfl rfl ?_ | refine zaw rfl rfl ?_ | refine walksB_skip rfl rfl ?_);simp only [Act.put,Act.eval,evs])
           | (refine walksB_unwanted rfl rfl ?_;simp only [Act.put,evp])
           | (refine zaC (v:=?_) rfl rfl (fun w' hE=>?_) ?_;rotate_left 1;(· ((try (have hEx:=Below.trans (Hid.out XB) hE));go_simp;(try go_bits);with_reducible rfl));simp only [Act.put,evp])
           | (refine zam rfl rfl (fun K hK=>?_);(first | (refine zlN _ rfl q (by first | rfl | exact congrArg (Value.int .u8) hov) ?_;intro A8 w8 hx8 hs8;have hx8':=Below.mono hx8 (zaD HGD.out.ext);have HGE:=hid (HGD.out.later hx8);have HS8:=hid hs8;clear hx8 hs8;have XB':=hid (Below.trans (Hid.out XB) (hx8'));clear XB;have XB:=XB';clear XB') | (refine zdu _ _ rfl _ acc rfl HGE.out _ 1 1 [q] rfl HS8.out (by omega) ?_;intro v' w9 hg9 hb9;have HG9:=hid hg9;clear hg9;have XB':=hid (Below.trans (Hid.out XB) (hb9));clear XB;have XB:=XB';clear XB'));refine hK _ _ (by first | assumption | exact Below.refl _ _ | exact Below.mono (Ext.alloc _ _) (Hid.out HSW) | exact Below.setCell (p:=⟨_,_,_⟩) (Below.refl _ _) (Nat.le_refl _) _) ?_;clear hK K;try simp only [Act.put,evp])
           | (refine zaQ ?_ ?_)
           | (refine zam rfl rfl (fun K hK=>?_);go_wp2_with (first | (go_at_call 183;(with_reducible refine (zd2 y _).mono ?_);rintro e w5 ⟨he5,rfl⟩;rw [HA.out] at he5;subst he5)| (go_at_call 183;(with_reducible refine (zd2 z _).mono ?_);rintro e w5 ⟨he5,rfl⟩;rw [HB.out] at he5;subst he5));refine hK _ _ (by first | assumption | exact Below.refl _ _ | exact Below.mono (Ext.alloc _ _) (Hid.out HSW) | exact Below.setCell (p:=⟨_,_,_⟩) (Below.refl _ _) (Nat.le_refl _) _) ?_;clear hK K;try simp only [Act.put,evp]))
          refine zaH ?_
          go_wp2
          exact ⟨⟨j+3,acc++[q],by omega,by go_num,by simp;omega,HG9,.inr ⟨by omega,HH⟩⟩,by simp [intOf];omega⟩
       ·have hl2':¬ (j:Int)+2<(s.size:Int):=by omega
        have HF:Hid (za9 (bys s)=none):=by show _=_;rw [← HR.out,hd.out,hd1,h92,show (bys s).drop (j+1+1)=[] from zbT (by omega),zgf hsp]
        clear h92 hsp hd1
        go_wp2_with (first
         | (go_at_call 147;(with_reducible refine (za5 y _).mono ?_);rintro e w4 ⟨he4,rfl⟩;rw [HSY.out] at he4;subst he4))
        go_ret2
        exact ⟨by rw [HF.out];rfl,HG.out.ext⟩
     ·have hl1':¬ (j:Int)+1<(s.size:Int):=by omega
      have hl2':¬ (j:Int)+2<(s.size:Int):=by omega
      have HF:Hid (za9 (bys s)=none):=by show _=_;rw [← HR.out,hd.out,h92,show (bys s).drop (j+1)=[] from zbT (by omega),zhY]
      clear h92
      go_wp2
      go_ret2
      exact ⟨by rw [HF.out];rfl,HG.out.ext⟩
    ·have t92:((x.toNat:Int) != 92)=true:=by
      have h:((x.toNat:Int)==92)=false:=zau (k:=92) h92
      rw [bne,h];rfl
     have hP:=zfk (acc:=acc) (t:=(bys s).drop (j+1)) h92
     cases hsp:zbs x with
     | true=>
      have HSP:=hid hsp
      have HF:Hid (za9 (bys s)=none):=by show _=_;rw [← HR.out,hd.out,hP,if_pos (by rw [hsp];simp)]
      clear h92 hP hsp hbad t0j
      go_wp2_with (first
       | (go_at_call 147;(with_reducible refine (za5 x _).mono ?_);rintro e w4 ⟨he4,rfl⟩;rw [HSP.out] at he4;subst he4))
      go_ret2
      exact ⟨by rw [HF.out];rfl,HG.out.ext⟩
     | false=>
      have HSP:=hid hsp
      by_cases h0:x=0
      ·have t0:((x.toNat:Int)==0)=true:=za6 (k:=0) (by decide) h0
       have HF:Hid (za9 (bys s)=none):=by show _=_;rw [← HR.out,hd.out,hP,if_pos (by rw [h0];rfl)]
       clear h92 h0 hP hsp hbad t0j
       go_wp2_with (first
        | (go_at_call 147;(with_reducible refine (za5 x _).mono ?_);rintro e w4 ⟨he4,rfl⟩;rw [HSP.out] at he4;subst he4))
       go_ret2
       exact ⟨by rw [HF.out];rfl,HG.out.ext⟩
      ·have t0:((x.toNat:Int)==0)=false:=zau (k:=0) h0
       have hemp:((bys s).drop (j+1)).isEmpty=decide (j+1=s.size):=by
        rw [Bool.eq_iff_iff,List.isEmpty_iff,decide_eq_true_eq,List.drop_eq_nil_iff,zaf]
        omega
       by_cases h32:x=32∧j+1=s.size
       ·have t32:((x.toNat:Int)==32)=true:=za6 (k:=32) (by decide) h32.1
        have tj:((j:Int)==0)=false:=by rw [t0j,decide_eq_false];exact fun h=>hbad ⟨h,.inl h32.1⟩
        have te:((j:Int)==(s.size:Int)-1)=true:=by rw [beq_iff_eq];omega
        have HF:Hid (za9 (bys s)=none):=by show _=_;rw [← HR.out,hd.out,hP,if_pos (by rw [hemp,h32.1,decide_eq_true h32.2];rfl)]
        clear h92 h0 hP hsp hemp h32 hbad t0j
        go_wp2_with (first
         | (go_at_call 147;(with_reducible refine (za5 x _).mono ?_);rintro e w4 ⟨he4,rfl⟩;rw [HSP.out] at he4;subst he4))
        go_ret2
        exact ⟨by rw [HF.out];rfl,HG.out.ext⟩
       ·have HH:Hid (readF (acc++[x]) ((bys s).drop (j+1))=za9 (bys s)):=by
         show _=_
         rw [← HR.out,hd.out,hP,if_neg]
         rw [hemp,hsp]
         simp [h0]
         exact fun e=>fun e2=>h32 ⟨e,e2⟩
        have tt:(((x.toNat:Int)==32)=true∧((j:Int)==0)=false∧((j:Int)==(s.size:Int)-1)=false∧((x.toNat:Int)==35)=false)∨(((x.toNat:Int)==32)=false∧((x.toNat:Int)==35)=true∧((j:Int)==0)=false)∨(((x.toNat:Int)==32)=false∧((x.toNat:Int)==35)=false):=by
         by_cases h3:x=32
         ·left
          refine ⟨za6 (k:=32) (by decide) h3,?_,?_,zau (k:=35) (by rw [h3];decide)⟩
          ·rw [t0j,decide_eq_false];exact fun h=>hbad ⟨h,.inl h3⟩
          ·rw [beq_eq_false_iff_ne]
           intro e
           exact h32 ⟨h3,by omega⟩
         ·by_cases h5:x=35
          ·right;left
           refine ⟨zau (k:=32) h3,za6 (k:=35) (by decide) h5,?_⟩
           rw [t0j,decide_eq_false];exact fun h=>hbad ⟨h,.inr h5⟩
          ·exact .inr (.inr ⟨zau (k:=32) h3,zau (k:=35) h5⟩)
        clear h92 h0 hP hsp hemp h32 hbad t0j
        rcases tt with ⟨t1,t2,t3,t4⟩ | ⟨t1,t2,t3⟩ | ⟨t1,t2⟩
        all_goals
         go_wp2_with (first
          | (go_at_call 147;(with_reducible refine (za5 x _).mono ?_);rintro e w4 ⟨he4,rfl⟩;rw [HSP.out] at he4;subst he4)
          | (at_builtin;refine zbC rfl _ _ rfl _ _ rfl (HG.out.later (Ext.alloc _ _)) _ 1 1 [x] rfl (zdS _ x) (by omega) ?_;intro v' w5 hg5;have HG5:=hid hg5;clear hg5))
         exact ⟨⟨j+1,acc++[x],by omega,by go_num,by simp;omega,HG5,.inr ⟨by omega,HH⟩⟩,by simp [intOf];omega⟩
  ·obtain rfl:j=s.size:=by omega
   have HF:Hid (za9 (bys s)=some acc):=by
    show _=_
    rcases HR0.out with ⟨h0,ha⟩ | ⟨_,h⟩
    ·rw [zbt h0,ha];rfl
    ·rw [← h,zbT (Nat.le_refl _)];rfl
   obtain ⟨A1,c1,rfl,hs1⟩:=HG.out.sl
   have hC:=hs1.conv wr (Ext.refl wr)
   clear hs1
   go_wp2
   go_ret2
   exact ⟨by rw [HF.out];rfl,HG.out.ext⟩
end Go.Proofs.YtioglicfndkgiaaGreatDoor
