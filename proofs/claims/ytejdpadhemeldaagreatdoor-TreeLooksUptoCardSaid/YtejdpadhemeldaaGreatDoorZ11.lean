/- Lemmas of the walk that the last text of this claim joins. -/
import Derived.Test.YtejdpadhemeldaaGreatDoorZ01
import Derived.Test.YtejdpadhemeldaaGreatDoorZ09
import Derived.Laws.Externs
import Derived.Laws.Cover2
import Derived.Laws.Cover3
import Derived.Laws.FloatArith
import Derived.Test.YtejdpadhemeldaaGreatDoorZ04
import Derived.Test.YtejdpadhemeldaaGreatDoorZ10
import Derived.Test.YtejdpadhemeldaaGreatDoorZ02
set_option maxHeartbeats 40000000
set_option linter.unusedVariables false
set_option linter.unusedSimpArgs false
namespace Go.Proofs.YtejdpadhemeldaaGreatDoor
set_option maxRecDepth 10000
def bitsI (n : Int) : Nat:=FloatKind.nearest .f64 n
theorem log_le {m : Nat} (hm : 0 < m) (h : m < 9007199254740992) : m.log2 ≤ 52:=by
 have : m.log2 < 53:=(Nat.log2_lt (by omega)).2 (by simpa using h)
 omega
def fullM (m : Nat) : Nat:=m * 2 ^ (52 - m.log2)
theorem full_bounds {m : Nat} (hm : 0 < m) (h : m < 9007199254740992) : 4503599627370496 ≤ fullM m ∧ fullM m < 9007199254740992:=by
 have hl:=log_le hm h
 have h1 : 2 ^ m.log2 ≤ m:=Nat.log2_self_le (by omega)
 have h2 : m < 2 ^ (m.log2 + 1):=Nat.lt_log2_self
 unfold fullM
 constructor
 ·calc 4503599627370496 = 2 ^ m.log2 * 2 ^ (52 - m.log2):=by rw [← Nat.pow_add,show m.log2 + (52 - m.log2) = 52 by omega]
   _ ≤ m * 2 ^ (52 - m.log2):=Nat.mul_le_mul_right _ h1
 ·calc m * 2 ^ (52 - m.log2) < 2 ^ (m.log2 + 1) * 2 ^ (52 - m.log2):=Nat.mul_lt_mul_of_pos_right h2 (Nat.pow_pos (by decide))
   _ = 9007199254740992:=by rw [← Nat.pow_add,show m.log2 + 1 + (52 - m.log2) = 53 by omega]
theorem near_form (neg : Bool) {m : Nat} (hm : 0 < m) (h : m < 9007199254740992) :
 Ieee.double.nearest neg m 0 = Ieee.double.word neg ((m.log2 + 1022) * 4503599627370496 + fullM m):=by
 have hl:=log_le hm h
 obtain ⟨b1,b2⟩:=full_bounds hm h
 have hp : Ieee.double.leastPlace = -1074:=by decide
 have hf : Ieee.double.fractionBits = 52:=rfl
 have hb : Ieee.double.binade = 4503599627370496:=by decide
 have hi : Ieee.double.infRung = 9218868437227405312:=by decide
 unfold Ieee.Format.nearest
 rw [if_neg (by omega)]
 simp only [hp,hf,hb,hi]
 have hmax : max ((0 : Int) + (m.log2 : Int) - (52 : Nat)) (-1074) = (m.log2 : Int) - 52:=by omega
 rw [hmax]
 have e1 : ((0 : Int) - ((m.log2 : Int) - 52)).toNat = 52 - m.log2:=by omega
 have e2 : ((m.log2 : Int) - 52 - 0).toNat = 0:=by omega
 have e3 : ((m.log2 : Int) - 52 - -1074).toNat = m.log2 + 1022:=by omega
 rw [e1,e2,e3]
 have hc : Ieee.Toward.even.cut neg (m <<< (52 - m.log2)) 0 = fullM m:=by
  unfold Ieee.Toward.cut fullM
  simp [Nat.shiftLeft_eq,Nat.mod_one]
 rw [hc,Nat.min_eq_left (by omega)]
theorem read_word (neg : Bool) {L K : Nat} (hl : L ≤ 52) (h1 : 4503599627370496 ≤ K) (h2 : K < 9007199254740992) :
 Ieee.double.read (Ieee.double.word neg ((L + 1022) * 4503599627370496 + K)) = .number neg K ((L : Int) - 52):=by
 have hp : Ieee.double.leastPlace = -1074:=by decide
 have hb : Ieee.double.binade = 4503599627370496:=by decide
 have hi : Ieee.double.infRung = 9218868437227405312:=by decide
 have hs : Ieee.double.signWeight = 9223372036854775808:=by decide
 have hw : Ieee.double.word neg ((L + 1022) * 4503599627370496 + K) = (if neg then 9223372036854775808 else 0) + ((L + 1022) * 4503599627370496 + K):=by
  unfold Ieee.Format.word
  rw [hs]
  cases neg <;> simp
 unfold Ieee.Format.read
 simp only [hp,hb,hi,hs,hw]
 have hneg : (((if neg then 9223372036854775808 else 0) + ((L + 1022) * 4503599627370496 + K)) / 9223372036854775808 % 2 == 1) = neg:=by
  cases neg
  ·rw [beq_eq_false_iff_ne];simp only [Bool.false_eq_true,if_false];omega
  ·rw [beq_iff_eq];simp only [if_true];omega
 have hr : ((if neg then 9223372036854775808 else 0) + ((L + 1022) * 4503599627370496 + K)) % 9223372036854775808 = (L + 1022) * 4503599627370496 + K:=by
  cases neg
  ·simp only [Bool.false_eq_true,if_false];omega
  ·simp only [if_true];omega
 rw [hneg,hr,if_neg (by omega),if_pos (by omega)]
 have q1 : 4503599627370496 + ((L + 1022) * 4503599627370496 + K) % 4503599627370496 = K:=by omega
 have q2 : (-1074 : Int) + ((((L + 1022) * 4503599627370496 + K) / 4503599627370496 - 1 : Nat) : Int) = (L : Int) - 52:=by omega
 rw [q1,q2]
theorem read_bits {n : Int} (h0 : n ≠ 0) (h : n.natAbs < 9007199254740992) : Ieee.double.read (bitsI n) = .number (decide (n < 0)) (fullM n.natAbs) ((n.natAbs.log2 : Int) - 52):=by
 have hm : 0 < n.natAbs:=by omega
 obtain ⟨b1,b2⟩:=full_bounds hm h
 have e : bitsI n = Ieee.double.nearest (decide (n < 0)) n.natAbs 0:=rfl
 rw [e,near_form _ hm h,read_word _ (log_le hm h) b1 b2]
theorem bits_zero : bitsI 0 = 0:=by decide
theorem read_zero : Ieee.double.read 0 = .number false 0 (-1074):=by decide
theorem signed_scaled {n : Int} (h0 : n ≠ 0) (h : n.natAbs < 9007199254740992) {base : Int} (hb : base ≤ (n.natAbs.log2 : Int) - 52) :
 Ieee.signed (decide (n < 0)) (fullM n.natAbs) ((n.natAbs.log2 : Int) - 52 - base).toNat = n * 2 ^ (-base).toNat:=by
 have hm : 0 < n.natAbs:=by omega
 have hl:=log_le hm h
 have hs : fullM n.natAbs <<< ((n.natAbs.log2 : Int) - 52 - base).toNat = n.natAbs * 2 ^ (-base).toNat:=by
  unfold fullM
  rw [Nat.shiftLeft_eq,Nat.mul_assoc,← Nat.pow_add]
  congr 2
  omega
 unfold Ieee.signed
 rw [hs]
 by_cases hn : n < 0
 ·rw [decide_eq_true hn,if_pos rfl]
  have e : n = -(n.natAbs : Int):=by omega
  conv=>rhs;rw [e]
  push_cast
  rw [Int.neg_mul]
 ·rw [decide_eq_false hn,if_neg (by decide)]
  have e : n = (n.natAbs : Int):=by omega
  conv=>rhs;rw [e]
  push_cast
  rfl
theorem compare_scaled (a b : Int) (k : Nat) : compare (a * 2 ^ k) (b * 2 ^ k) = compare a b:=by
 have hp : (0 : Int) < 2 ^ k:=Int.pow_pos (by decide)
 rcases Int.lt_trichotomy a b with h | h | h
 ·rw [(Int.compare_eq_lt).2 h,(Int.compare_eq_lt).2 (Int.mul_lt_mul_of_pos_right h hp)]
 ·rw [h,(Int.compare_eq_eq).2 rfl,(Int.compare_eq_eq).2 rfl]
 ·rw [(Int.compare_eq_gt).2 h,(Int.compare_eq_gt).2 (Int.mul_lt_mul_of_pos_right h hp)]
theorem order_bits {a b : Int} (ha : a.natAbs < 9007199254740992) (hb : b.natAbs < 9007199254740992) : Ieee.double.order (bitsI a) (bitsI b) = some (compare a b):=by
 unfold Ieee.Format.order
 have hz : ∀ k,Ieee.signed false 0 k = 0:=fun k=>by simp [Ieee.signed]
 by_cases h0 : a = 0
 ·by_cases h1 : b = 0
  ·subst h0 h1;decide
  ·subst h0
   rw [bits_zero,read_zero,read_bits h1 hb]
   have hl:=log_le (m:=b.natAbs) (by omega) hb
   simp only [Ieee.Datum.order]
   rw [hz,signed_scaled h1 hb (by omega)]
   have:=compare_scaled 0 b (-(min (-1074) ((b.natAbs.log2 : Int) - 52))).toNat
   rw [Int.zero_mul] at this
   rw [this]
 ·by_cases h1 : b = 0
  ·subst h1
   rw [bits_zero,read_zero,read_bits h0 ha]
   simp only [Ieee.Datum.order]
   rw [hz,signed_scaled h0 ha (by omega)]
   have:=compare_scaled a 0 (-(min ((a.natAbs.log2 : Int) - 52) (-1074))).toNat
   rw [Int.zero_mul] at this
   rw [this]
  ·rw [read_bits h0 ha,read_bits h1 hb]
   simp only [Ieee.Datum.order]
   rw [signed_scaled h0 ha (by omega),signed_scaled h1 hb (by omega),compare_scaled]
theorem full_log {m : Nat} (hm : 0 < m) (h : m < 9007199254740992) : (fullM m).log2 = 52:=by
 obtain ⟨b1,b2⟩:=full_bounds hm h
 have h1 : (fullM m).log2 < 53:=(Nat.log2_lt (by omega)).2 (by simpa using b2)
 have h2 : 52 ≤ (fullM m).log2:=(Nat.le_log2 (by omega)).2 (by simpa using b1)
 omega
theorem integral_bits {n : Int} (h0 : n ≠ 0) (h : n.natAbs < 9007199254740992) : (Ieee.double.read (bitsI n)).integral .zero = .number (decide (n < 0)) n.natAbs 0:=by
 have hm : 0 < n.natAbs:=by omega
 have hl:=log_le hm h
 rw [read_bits h0 h]
 unfold Ieee.Datum.integral Ieee.Toward.cut
 have e1 : ((n.natAbs.log2 : Int) - 52).toNat = 0:=by omega
 have e2 : (-((n.natAbs.log2 : Int) - 52)).toNat = 52 - n.natAbs.log2:=by omega
 simp only [e1,e2,Nat.shiftLeft_zero,full_log hm h]
 have e3 : min (52 - n.natAbs.log2) (52 + 2) = 52 - n.natAbs.log2:=by omega
 rw [e3,Nat.shiftLeft_eq,Nat.one_mul]
 have e4 : fullM n.natAbs / 2 ^ (52 - n.natAbs.log2) = n.natAbs:=by
  unfold fullM
  exact Nat.mul_div_cancel _ (Nat.pow_pos (by decide))
 rw [e4]
 simp
theorem toInt_bits {n : Int} (h : n.natAbs < 9007199254740992) : (Ieee.double.read (bitsI n)).toInt .zero = some n:=by
 by_cases h0 : n = 0
 ·subst h0;decide
 ·unfold Ieee.Datum.toInt
  rw [integral_bits h0 h]
  simp only [Ieee.signed,Nat.shiftLeft_zero]
  by_cases hn : n < 0
  ·rw [decide_eq_true hn,if_pos rfl];congr 1;omega
  ·rw [decide_eq_false hn,if_neg (by decide)];congr 1;omega
theorem trunc_bits {n : Int} (h : n.natAbs < 9007199254740992) : Ieee.double.write ((Ieee.double.read (bitsI n)).integral .zero) = bitsI n:=by
 by_cases h0 : n = 0
 ·subst h0;decide
 ·rw [integral_bits h0 h]
  rfl
theorem bits_word {n : Int} (h0 : n ≠ 0) (h : n.natAbs < 9007199254740992) : bitsI n = (if n < 0 then 9223372036854775808 else 0) + ((n.natAbs.log2 + 1022) * 4503599627370496 + fullM n.natAbs):=by
 have hm : 0 < n.natAbs:=by omega
 have hs : Ieee.double.signWeight = 9223372036854775808:=by decide
 have e : bitsI n = Ieee.double.nearest (decide (n < 0)) n.natAbs 0:=rfl
 rw [e,near_form _ hm h]
 unfold Ieee.Format.word
 rw [hs]
 by_cases hn : n < 0
 ·simp [hn]
 ·simp [hn]
theorem bits_low {n : Int} (h0 : n ≠ 0) (h : n.natAbs < 9007199254740992) : (n.natAbs.log2 + 1022) * 4503599627370496 + fullM n.natAbs < 9223372036854775808:=by
 have hm : 0 < n.natAbs:=by omega
 obtain ⟨b1,b2⟩:=full_bounds hm h
 have:=log_le hm h
 omega
theorem bits_lt {n : Int} (h : n.natAbs < 9007199254740992) : bitsI n < 18446744073709551616:=by
 by_cases h0 : n = 0
 ·subst h0;decide
 ·rw [bits_word h0 h]
  have:=bits_low h0 h
  split <;> omega
theorem abs_bits {n : Int} (h : n.natAbs < 9007199254740992) : bitsI n % 9223372036854775808 = bitsI (n.natAbs : Int):=by
 by_cases h0 : n = 0
 ·subst h0;decide
 ·have hl:=bits_low h0 h
  rw [bits_word h0 h,bits_word (n:=(n.natAbs : Int)) (by omega) (by omega),if_neg (show ¬ ((n.natAbs : Int) < 0) by omega)]
  simp only [Int.natAbs_natCast]
  split <;> omega
theorem sign_bits {n : Int} (h : n.natAbs < 9007199254740992) : decide (9223372036854775808 ≤ bitsI n) = decide (n < 0):=by
 by_cases h0 : n = 0
 ·subst h0;decide
 ·have hl:=bits_low h0 h
  rw [bits_word h0 h]
  by_cases hn : n < 0
  ·rw [if_pos hn,decide_eq_true hn];exact decide_eq_true (by omega)
  ·rw [if_neg hn,decide_eq_false hn];exact decide_eq_false (by omega)
end Go.Proofs.YtejdpadhemeldaaGreatDoor
namespace Go.Proofs.YtejdpadhemeldaaGreatDoor
open Go.RowKit
set_option maxRecDepth 100000
theorem toIntegral_number {P : Program} (x : Nat) {s : Bool} {m : Nat} {p : Int} (hx : FloatKind.decode .f64 x = .number s m p) (w : World) :
 (Extern.MathFloor.toIntegral "math.archTrunc" .zero #[.float .f64 x]).run P w = .ok (.float .f64 (FloatKind.encode .f64 ((Ieee.Datum.number s m p).integral .zero))) w:=by
 obtain ⟨A,hA⟩ : ∃ A : Bool → Nat → Sem Value,Extern.MathFloor.toIntegral "math.archTrunc" .zero #[.float .f64 x] = (match FloatKind.decode .f64 x with | .nan s t=>A s t | d=>pure (.float .f64 (FloatKind.encode .f64 (d.integral .zero)))):=⟨_,rfl⟩
 rw [hA,hx]
 rfl
theorem toIntegral_bits {P : Program} {n : Int} (h : n.natAbs < 9007199254740992) (w : World) : (Extern.MathFloor.toIntegral "math.archTrunc" .zero #[.float .f64 (bitsI n)]).run P w = .ok (.float .f64 (bitsI n)) w:=by
 have ht:=trunc_bits h
 have hd : FloatKind.decode .f64 (bitsI n) = Ieee.double.read (bitsI n):=rfl
 by_cases h0 : n = 0
 ·subst h0
  rw [bits_zero,read_zero] at *
  rw [toIntegral_number 0 hd]
  exact congrArg (fun b=>Result.ok (Value.float .f64 b) w) ht
 ·rw [read_bits h0 h] at *
  rw [toIntegral_number _ hd]
  exact congrArg (fun b=>Result.ok (Value.float .f64 b) w) ht
theorem trunc_run {n : Int} (h : n.natAbs < 9007199254740992) (w : World) : (callFunc 222 #[.float .f64 (bitsI n)]).run Tryz.prog w = .ok (.value (.float .f64 (bitsI n))) w:=by
 have:=run_callFunc_extern (P:=Tryz.prog) (e:=Extern.MathFloor.toIntegral "math.archTrunc" .zero) Tryz.func222 (by kernel_rfl) (by kernel_rfl) (by kernel_rfl) (by kernel_rfl) #[.float .f64 (bitsI n)] w
 rw [this,toIntegral_bits h]
 rfl
theorem tobits_run (b : Nat) (w : World) : (callFunc 225 #[.float .f64 b]).run Tryz.prog w = .ok (.value (.int .u64 b)) w:=by
 have:=run_callFunc_extern (P:=Tryz.prog) (e:=Extern.MathFloatBits.float64bits) Tryz.func225 (by kernel_rfl) (by kernel_rfl) (by kernel_rfl) (by kernel_rfl) #[.float .f64 b] w
 rw [this]
 rfl
theorem frombits_run (b : Nat) (w : World) : (callFunc 224 #[.int .u64 b]).run Tryz.prog w = .ok (.value (.float .f64 b)) w:=by
 have:=run_callFunc_extern (P:=Tryz.prog) (e:=Extern.MathFloatBits.float64frombits) Tryz.func224 (by kernel_rfl) (by kernel_rfl) (by kernel_rfl) (by kernel_rfl) #[.int .u64 b] w
 rw [this]
 rfl
theorem mtrunc_any {n : Int} (h : n.natAbs < 9007199254740992) (w : World) : Calls Tryz.prog 219 #[.float .f64 (bitsI n)] w fun e w'=>e = .returned (.float .f64 (bitsI n)) ∧ w' = w:=by
 have ht:=fun w=>trunc_run h w
 generalize bitsI n = b at *
 go_enter Tryz.func219,Tryz.ntmps219
 go_wp2
 go_ret
 exact ⟨rfl,rfl⟩
theorem abs_val {n : Int} (h : n.natAbs < 9007199254740992) : bits .andNot .u64 (bitsI n) 9223372036854775808 = (bitsI (n.natAbs : Int) : Int):=by
 have hl:=bits_lt h
 have ha:=abs_bits h
 have hk : bitsI (n.natAbs : Int) < 9223372036854775808:=by rw [← ha];exact Nat.mod_lt _ (by decide)
 have e1 : (BitVec.ofInt 64 (bitsI n : Int) &&& ~~~BitVec.ofInt 64 9223372036854775808).toNat = bitsI n % 9223372036854775808:=by
  have e2 : ~~~BitVec.ofInt 64 9223372036854775808 = BitVec.ofNat 64 (2 ^ 63 - 1):=by decide
  rw [e2,BitVec.toNat_and,BitVec.toNat_ofNat]
  have e3 : (BitVec.ofInt 64 (bitsI n : Int)).toNat = bitsI n:=by
   rw [BitVec.toNat_ofInt]
   omega
  rw [e3,show (2 ^ 63 - 1) % 2 ^ 64 = 2 ^ 63 - 1 by decide,Nat.and_two_pow_sub_one_eq_mod]
 show IntKind.wrap .u64 ((BitVec.ofInt 64 (bitsI n : Int) &&& ~~~BitVec.ofInt 64 9223372036854775808).toNat : Int) = _
 rw [e1,ha]
 unfold IntKind.wrap
 simp [IntKind.signed,IntKind.bits]
 omega
theorem mabs_any {n : Int} (h : n.natAbs < 9007199254740992) (w : World) : Calls Tryz.prog 220 #[.float .f64 (bitsI n)] w fun e w'=>e = .returned (.float .f64 (bitsI (n.natAbs : Int))) ∧ w' = w:=by
 have ht:=fun w=>tobits_run (bitsI n) w
 have hf:=fun w=>frombits_run (bitsI (n.natAbs : Int)) w
 have ha:=abs_val h
 generalize bitsI (n.natAbs : Int) = c at *
 generalize bitsI n = b at *
 go_enter Tryz.func220,Tryz.ntmps220
 go_wp2
 go_ret
 exact ⟨rfl,rfl⟩
theorem msign_cmp {b : Nat} (h : b < 18446744073709551616) : decide (wrap64 (b : Int) < 0) = decide (9223372036854775808 ≤ b):=by
 have : wrap64 (b : Int) < 0 ↔ 9223372036854775808 ≤ b:=by unfold wrap64;omega
 exact decide_eq_decide.mpr this
theorem msign_any {n : Int} (h : n.natAbs < 9007199254740992) (w : World) : Calls Tryz.prog 221 #[.float .f64 (bitsI n)] w fun e w'=>e = .returned (.bool (decide (n < 0))) ∧ w' = w:=by
 have ht:=fun w=>tobits_run (bitsI n) w
 have hs:=sign_bits h
 have hl:=bits_lt h
 rw [← hs]
 generalize bitsI n = b at *
 clear hs h
 go_enter Tryz.func221,Tryz.ntmps221
 go_wp2
 have hc:=msign_cmp hl
 go_ret
 exact ⟨by rw [hc];rfl,rfl⟩
theorem cmp_bits {a b : Int} (ha : a.natAbs < 9007199254740992) (hb : b.natAbs < 9007199254740992) : (FloatKind.f64).format.order (bitsI a) (bitsI b) = some (compare a b):=order_bits ha hb
theorem bits_million : bitsI 1000000 = 4696837146684686336:=by decide
theorem bits_one : bitsI 1 = 4607182418800017408:=by decide
theorem bits_mone : bitsI (-1) = 13830554455654793216:=by decide
theorem part_any {n : Int} (h : n.natAbs < 9007199254740992) (w : World) : Calls Tryz.prog 210 #[.float .f64 (bitsI n)] w fun e w'=>e = .returned (.bool (decide (n.natAbs ≤ 1000000))) ∧ w' = w:=by
 have h1:=fun w=>mtrunc_any h w
 have h2:=fun w=>mabs_any h w
 have h3:=fun w=>msign_any h w
 have c1 : ((FloatKind.f64).format.order (bitsI n) (bitsI n) == some .eq) = true:=by rw [cmp_bits h h];simp
 have c2 : ((FloatKind.f64).format.order (bitsI (n.natAbs : Int)) 4696837146684686336 == some .lt || (FloatKind.f64).format.order (bitsI (n.natAbs : Int)) 4696837146684686336 == some .eq) = decide (n.natAbs ≤ 1000000):=by
  rw [← bits_million,cmp_bits (by omega) (by decide)]
  rcases Int.lt_trichotomy (n.natAbs : Int) 1000000 with h | h | h
  ·rw [(Int.compare_eq_lt).2 h];simp;omega
  ·rw [(Int.compare_eq_eq).2 h];simp;omega
  ·rw [(Int.compare_eq_gt).2 h];simp;omega
 have c3 : ((FloatKind.f64).format.order (bitsI n) 0 != some .eq) = decide (n ≠ 0):=by
  rw [← bits_zero,cmp_bits h (by decide)]
  rcases Int.lt_trichotomy n 0 with h | h | h
  ·have hn : n ≠ 0:=by omega
   rw [(Int.compare_eq_lt).2 h];simp [hn]
  ·rw [(Int.compare_eq_eq).2 h];simp [h]
  ·have hn : n ≠ 0:=by omega
   rw [(Int.compare_eq_gt).2 h];simp [hn]
 generalize bitsI n = b at *
 generalize bitsI (n.natAbs : Int) = c at *
 go_enter Tryz.func210,Tryz.ntmps210
 go_wp2_with (first
  | (go_at_call 219;(with_reducible refine (h1 _).mono ?_);rintro e w1 ⟨rfl,rfl⟩)
  | (go_at_call 220;(with_reducible refine (h2 _).mono ?_);rintro e w1 ⟨rfl,rfl⟩)
  | (go_at_call 221;(with_reducible refine (h3 _).mono ?_);rintro e w1 ⟨rfl,rfl⟩))
 all_goals clear h1 h2 h3
 all_goals go_ret
 all_goals exact ⟨by simp [*] <;> (try rfl),rfl⟩
theorem phformed_any {a b : Int} (ha : a.natAbs < 9007199254740992) (hb : b.natAbs < 9007199254740992) (w : World) : Calls Tryz.prog 187 #[.complex .f64 (bitsI a) (bitsI b)] w fun e w'=>e = .returned (.bool (decide (a.natAbs ≤ 1000000) && decide (b.natAbs ≤ 1000000))) ∧ w' = w:=by
 have h1:=fun w=>part_any ha w
 have h2:=fun w=>part_any hb w
 generalize bitsI a = x at *
 generalize bitsI b = y at *
 generalize decide (a.natAbs ≤ 1000000) = d at *
 generalize decide (b.natAbs ≤ 1000000) = f at *
 go_enter Tryz.func187,Tryz.ntmps187
 go_wp2_with (first
  | (go_at_call 210;(with_reducible refine (h1 _).mono ?_);rintro e w1 ⟨rfl,rfl⟩)
  | (go_at_call 210;(with_reducible refine (h2 _).mono ?_);rintro e w1 ⟨rfl,rfl⟩))
 all_goals go_ret
 all_goals exact ⟨by simp [*] <;> (try rfl),rfl⟩
theorem toint_val {n : Int} (h : n.natAbs < 9007199254740992) : floatToIntVal .f64 (bitsI n) .i64 = some n:=by
 have ht:=toInt_bits h
 have hd : FloatKind.decode .f64 (bitsI n) = Ieee.double.read (bitsI n):=rfl
 unfold floatToIntVal
 rw [hd,ht]
 have h1 : IntKind.i64.min = -9223372036854775808:=by decide
 have h2 : IntKind.i64.max = 9223372036854775807:=by decide
 show (if IntKind.i64.min ≤ n ∧ n ≤ IntKind.i64.max then some n else none) = some n
 rw [if_pos ⟨by omega,by omega⟩]
theorem conv_run {n : Int} (h : n.natAbs < 9007199254740992) (w : World) : (convert 203 2 (.float .f64 (bitsI n))).run Tryz.prog w = .ok (.int .i64 n) w:=
 run_convert_float_int w _ _ .f64 .i64 _ n (by rw [Tryz.underlying203];rfl) Tryz.underlying2 (toint_val h)
theorem integer_any {n : Int} (h : n.natAbs < 9007199254740992) (w : World) (hG : Gl w) : Calls Tryz.prog 188 #[.float .f64 (bitsI n)] w fun e w'=>e = .returned (.string (str (Lib.itoa n))) ∧ Ext w w':=by
 have hc:=conv_run h w
 have hf:=formatint_any n w hG (by omega) (by omega)
 generalize bitsI n = b at *
 go_enter Tryz.func188,Tryz.ntmps188
 go_wp2_with (go_at_call 142;(with_reducible refine hf.mono ?_);rintro e w1 ⟨rfl,hx⟩)
 go_ret
 exact ⟨rfl,hx⟩
theorem parse32_bound {l : List UInt8} {n : Int} (h : Lib.parseIntB 32 l = .ok n) : n.natAbs ≤ 2147483648:=by
 unfold Lib.parseIntB at h
 split at h
 ·cases h
 ·simp only at h
  split at h
  ·cases h
  ·cases h
  ·split at h
   ·cases h
   ·split at h
    ·cases h
    ·cases h
     split <;> omega
theorem parseint32_ok (s : ByteArray) (n : Int) (w : World) (hs : s.size ≤ 4000000) (h : Lib.parseIntB 32 (bys s) = .ok n) :
 Calls Tryz.prog 141 #[.string s,.int .i64 10,.int .i64 32] w fun e w'=>e = .returned (.tuple #[.int .i64 n,.nilIface]) ∧ Ext w w':=by
 refine (Any.strconv_ParseInt_10_at32_ok Tryz.laysC174 s (by omega) n h w).mono ?_
 rintro e w' ⟨rfl,rfl | ⟨t,rfl⟩⟩
 ·exact ⟨rfl,Ext.refl _⟩
 ·exact ⟨rfl,ext_bytes _ _ _⟩
theorem sat32 (l : List UInt8) : (Lib.intSat 32 l).natAbs < 9007199254740992:=by
 unfold Lib.intSat
 split <;> decide
theorem parseint32_bad (s : ByteArray) (w : World) (hG : Gl w) (hs : s.size ≤ 4000000) (h : ∀ n,Lib.parseIntB 32 (bys s) ≠ .ok n) :
 Calls Tryz.prog 141 #[.string s,.int .i64 10,.int .i64 32] w fun e w'=>(∃ (n : Int) (tp : Nat) (a : Addr),n.natAbs < 9007199254740992 ∧ e = .returned (.tuple #[.int .i64 n,.iface tp (.pointer (some a))])) ∧ Ext w w':=by
 obtain ⟨-,⟨t1,p1,h1⟩,⟨t2,p2,h2⟩,-⟩:=hG
 rcases hp : Lib.parseIntB 32 (bys s) with n | _ | _
 ·exact absurd hp (h n)
 ·refine (Any.strconv_ParseInt_10_at32_syntax_var Tryz.laysC174 s (by omega) hp t1 p1 w h1).mono ?_
  rintro e w' ⟨N,rfl,_,_,hx⟩
  exact ⟨⟨_,_,_,by decide,rfl⟩,hx⟩
 ·refine (Any.strconv_ParseInt_10_at32_range_var Tryz.laysC174 s (by omega) hp t2 p2 w h2).mono ?_
  rintro e w' ⟨N,rfl,_,_,hx⟩
  exact ⟨⟨_,_,_,sat32 _,rfl⟩,hx⟩
def ReadSays (s : ByteArray) (w : World) (e : Ending) (w' : World) : Prop:=∃ (n : Int) (b : Bool),n.natAbs < 9007199254740992 ∧ e = .returned (.tuple #[.float .f64 (bitsI n),.bool b]) ∧ Ext w w' ∧ (b = true → Lib.parseIntB 32 (bys s) = .ok n) ∧ (b = false → ∀ n,Lib.parseIntB 32 (bys s) ≠ .ok n)
theorem convf_run (n : Int) (w : World) : (convert 2 203 (.int .i64 n)).run Tryz.prog w = .ok (.float .f64 (bitsI n)) w:=
 run_convert_int_float w _ _ .i64 .f64 n (by rw [Tryz.underlying2];rfl) Tryz.underlying203
theorem phread_any (s : ByteArray) (w : World) (hG : Gl w) (hs : s.size ≤ 4000000) : Calls Tryz.prog 162 #[.string s] w (ReadSays s w):=by
 by_cases hp : ∃ n,Lib.parseIntB 32 (bys s) = .ok n
 ·obtain ⟨n,hn⟩:=hp
  have hb:=parse32_bound hn
  have HC:=parseint32_ok s n w hs hn
  have hc:=convf_run n
  have HS : ∀ w',Ext w w' → ReadSays s w (.returned (.tuple #[.float .f64 (bitsI n),.bool true])) w':=fun w' hx=>⟨n,true,by omega,rfl,hx,fun _=>hn,fun h=>by cases h⟩
  generalize bitsI n = b at *
  clear hn hb
  generalize ReadSays s w = R at *
  go_enter Tryz.func162,Tryz.ntmps162
  go_wp2_with (go_at_call 141;(with_reducible refine HC.mono ?_);rintro e w1 ⟨rfl,hx⟩;have HX:=hid hx;clear hx HC)
  refine wp_region_plan (.read 0 (.read 1 (.read 2 (.read 3 (.read 4 (.read 5 .done)))))) (by kernel_rfl) (by kernel_rfl) ?_
  intro wD hxD
  repeat' (first
   | ((first | refine walks_move rfl rfl ?_ | refine walks_assign rfl rfl ?_ | refine walks_skip rfl rfl ?_);simp only [Act.put,Act.eval,evs])
   | (refine walks_unwanted rfl rfl ?_;simp only [Act.put,evp])
   | (refine walks_read (v:=?_) rfl rfl (fun w' hE=>?_) ?_;rotate_left 1;(· ((try (have hEx:=Ext.trans (Hid.out XE) hE));go_simp;(try go_bits);with_reducible rfl));simp only [Act.put,evp])
   | (refine walks_alt ?_ ?_)
   | (refine walks_main rfl rfl (fun K hK=>?_);go_wp2_with (fail);refine hK _ _ (by first | assumption | exact Ext.alloc _ _ | exact Ext.refl _) ?_;clear hK K;try simp only [Act.put,evp]))
  refine walks_done ?_
  go_wp2
  first | exact HX.out.trans hxD | exact HS _ (HX.out.trans hxD)
 ·have HC:=parseint32_bad s w hG hs (fun n hn=>hp ⟨n,hn⟩)
  have HS : ∀ n w',n.natAbs < 9007199254740992 → Ext w w' → ReadSays s w (.returned (.tuple #[.float .f64 (bitsI n),.bool false])) w':=fun n w' hb hx=>⟨n,false,hb,rfl,hx,fun h=>by (cases h),fun _ n hn=>hp ⟨n,hn⟩⟩
  clear hp
  generalize ReadSays s w = R at *
  go_enter Tryz.func162,Tryz.ntmps162
  go_wp2_with (go_at_call 141;(with_reducible refine HC.mono ?_);rintro e w1 ⟨⟨n,tp,a,hb,rfl⟩,hx⟩;have HX:=hid hx;have HS:=HS n;have hc:=convf_run n;clear hx HC)
  generalize bitsI n = b at *
  refine wp_region_plan (.read 0 (.read 1 (.read 2 (.read 3 (.read 4 (.read 5 .done)))))) (by kernel_rfl) (by kernel_rfl) ?_
  intro wD hxD
  repeat' (first
   | ((first | refine walks_move rfl rfl ?_ | refine walks_assign rfl rfl ?_ | refine walks_skip rfl rfl ?_);simp only [Act.put,Act.eval,evs])
   | (refine walks_unwanted rfl rfl ?_;simp only [Act.put,evp])
   | (refine walks_read (v:=?_) rfl rfl (fun w' hE=>?_) ?_;rotate_left 1;(· ((try (have hEx:=Ext.trans (Hid.out XE) hE));go_simp;(try go_bits);with_reducible rfl));simp only [Act.put,evp])
   | (refine walks_alt ?_ ?_)
   | (refine walks_main rfl rfl (fun K hK=>?_);go_wp2_with (fail);refine hK _ _ (by first | assumption | exact Ext.alloc _ _ | exact Ext.refl _) ?_;clear hK K;try simp only [Act.put,evp]))
  refine walks_done ?_
  go_wp2
  exact HS _ hb (HX.out.trans hxD)
end Go.Proofs.YtejdpadhemeldaaGreatDoor
namespace Go.Proofs.YtejdpadhemeldaaGreatDoor
set_option maxRecDepth 10000
theorem dec_val : ∀ (n u : Nat),u ≤ n → (Lib.decDigits u).all digC = true ∧ valFrom 0 (Lib.decDigits u) = u ∧ Lib.decDigits u ≠ []
 | n,u,hn=>by
  by_cases h : u < 10
  ·rw [dec_small h]
   have e : (UInt8.ofNat (48 + u)).toNat = 48 + u:=by
    rw [UInt8.toNat_ofNat']
    omega
   refine ⟨?_,?_,by simp⟩
   ·simp only [List.all_cons,List.all_nil,Bool.and_true]
    rw [digC_iff,e];omega
   ·show 0 * 10 + ((UInt8.ofNat (48 + u)).toNat - 48) = u
    rw [e];omega
  ·rw [dec_big h]
   cases n with
   | zero=>omega
   | succ n=>
    obtain ⟨h1,h2,h3⟩:=dec_val n (u / 10) (by omega)
    have e : (UInt8.ofNat (48 + u % 10)).toNat = 48 + u % 10:=by
     rw [UInt8.toNat_ofNat']
     omega
    refine ⟨?_,?_,by simp⟩
    ·rw [List.all_append,Bool.and_eq_true]
     refine ⟨h1,?_⟩
     simp only [List.all_cons,List.all_nil,Bool.and_true]
     rw [digC_iff,e];omega
    ·rw [valFrom_snoc,h2,e];omega
theorem parse_okB {M : Nat} (hM : M < 1000000000000000000) (l : List UInt8) : ∀ acc : Nat,l.all digC = true → valFrom acc l ≤ M → Lib.parseUintM M acc l = .ok (valFrom acc l):=by
 induction l with
 | nil=>intro acc _ _;rfl
 | cons c t ih=>
  intro acc h hv
  simp only [List.all_cons,Bool.and_eq_true] at h
  have h1:=(digC_iff c).1 h.1
  have e : valFrom acc (c :: t) = valFrom (acc * 10 + (c.toNat - 48)) t:=rfl
  rw [e] at hv ⊢
  have h2:=valFrom_ge t (acc * 10 + (c.toNat - 48))
  have h3 : acc * 10 + (c.toNat - 48) ≤ M:=Nat.le_trans h2 hv
  unfold Lib.parseUintM
  rw [if_pos h1,if_neg (by omega),if_neg (by omega)]
  exact ih _ h.2 hv
theorem parse32_digits {u : Nat} (h : u ≤ 1000000) : Lib.parseIntB 32 (Lib.decDigits u) = .ok (u : Int):=by
 obtain ⟨h1,h2,h3⟩:=dec_val u u (Nat.le_refl _)
 have hp:=parse_okB (M:=2 ^ 32 - 1) (by decide) (Lib.decDigits u) 0 h1 (by rw [h2];exact Nat.le_trans h (by decide))
 rw [h2] at hp
 cases hd : Lib.decDigits u with
 | nil=>exact absurd hd h3
 | cons c t=>
  rw [hd] at h1 hp
  simp only [List.all_cons,Bool.and_eq_true] at h1
  have hc:=(digC_iff c).1 h1.1
  unfold Lib.parseIntB
  simp only
  rw [if_neg (by omega)]
  unfold Lib.parseUintB
  rw [if_neg (by simp),hp]
  simp only
  have : 2 ^ (32 - 1) = 2147483648:=by decide
  rw [if_neg (by omega),if_neg (by omega),if_neg (by omega)]
theorem parse32_sign {u : Nat} (h : u ≤ 1000000) (c : UInt8) (hc : c.toNat = 43 ∨ c.toNat = 45) : Lib.parseIntB 32 (c :: Lib.decDigits u) = .ok (if c.toNat = 45 then -(u : Int) else u):=by
 obtain ⟨h1,h2,h3⟩:=dec_val u u (Nat.le_refl _)
 have hp:=parse_okB (M:=2 ^ 32 - 1) (by decide) (Lib.decDigits u) 0 h1 (by rw [h2];exact Nat.le_trans h (by decide))
 rw [h2] at hp
 unfold Lib.parseIntB
 simp only
 rw [if_pos hc]
 unfold Lib.parseUintB
 rw [if_neg h3,hp]
 simp only
 have : 2 ^ (32 - 1) = 2147483648:=by decide
 rw [if_neg (by omega),if_neg (by omega)]
theorem parse32_itoa {a : Int} (h : a.natAbs ≤ 1000000) : Lib.parseIntB 32 (Lib.itoa a) = .ok a:=by
 unfold Lib.itoa
 by_cases h0 : a < 0
 ·rw [if_pos h0,parse32_sign h 45 (.inr (by decide)),if_pos (by decide)]
  congr 1
  omega
 ·rw [if_neg h0,parse32_digits (by omega)]
  congr 1
  omega
end Go.Proofs.YtejdpadhemeldaaGreatDoor
namespace Go.Proofs.YtejdpadhemeldaaGreatDoor
open Go.RowKit
def inner (w : World) (v : Value) (L : Option Nat) : Nat → Prop:=fun b=>w.heap.size ≤ b ∧ some b ≠ v.ownBlock ∧ some b ≠ L
structure GrowR {α : Type} (E : Elem α) (T : TypeId) (L : Option Nat) (w wr : World) (v : Value) (l : List α) : Prop where
 rows : ∃ vss : List (List Value),vss.length = l.length ∧ wr.ownsRow w.heap.size T E.k v l.length vss.flatten ∧ (∀ (i : Nat) u x,vss[i]? = some u → l[i]? = some x → E.R (inner w v L) wr u x)
 ext : Ext w wr
 apart : ∀ g,L = some g → v.ownBlock ≠ some g ∧ w.heap.size ≤ g ∧ g < wr.heap.size
section
variable {α : Type} {E : Elem α} {T : TypeId} {L : Option Nat} {w wr w' : World} {v : Value} {l : List α}
theorem GrowR.nil (hx : Ext w wr) (hL : ∀ g,L = some g → w.heap.size ≤ g ∧ g < wr.heap.size) : GrowR E T L w wr (.slice none 0 0) []:=
 ⟨⟨[],rfl,World.ownsRow_nil _ _ _ _,fun i u x h=>by simp at h⟩,hx,fun g hg=>⟨by simp [Value.ownBlock],hL g hg⟩⟩
theorem elem_keep {S S' : Nat → Prop} {u : List Value} {x : α} (h : E.R S wr u x) (hk : ∀ b,S b → b < wr.heap.size → w'.heap[b]? = wr.heap[b]?) (hs : ∀ b,S b → b < wr.heap.size → S' b) : E.R S' w' u x:=by
 have h1 : E.R (fun b=>S b ∧ b < wr.heap.size) wr u x:=E.mono h fun b hb hS=>⟨hS,hb⟩
 have h2 : E.R (fun b=>S b ∧ b < wr.heap.size) w' u x:=E.same h1 fun b hb=>hk b hb.1 hb.2
 exact E.mono h2 fun b _ hb=>hs b hb.1 hb.2
theorem GrowR.later (h : GrowR E T L w wr v l) (hx : Ext wr w') : GrowR E T L w w' v l:=by
 obtain ⟨⟨vss,h1,h2,h3⟩,h4,h5⟩:=h
 exact ⟨⟨vss,h1,own_ext h2 hx,fun i u x hi hl=>elem_keep (h3 i u x hi hl) (fun b _ hb=>hx.block b hb) (fun b hS _=>hS)⟩,h4.trans hx,fun g hg=>⟨(h5 g hg).1,(h5 g hg).2.1,Nat.lt_of_lt_of_le (h5 g hg).2.2 hx.size⟩⟩
theorem GrowR.setL {g : Nat} (h : GrowR E T (some g) w wr v l) (i : Nat) (z : Value) : GrowR E T (some g) w (wr.setCell ⟨g,i,none⟩ z) v l:=by
 obtain ⟨⟨vss,h1,h2,h3⟩,h4,h5⟩:=h
 obtain ⟨ha,hb,hc⟩:=h5 g rfl
 refine ⟨⟨vss,h1,?_,fun i' u x hi hl=>elem_keep (h3 i' u x hi hl) (fun b hS _=>heap_setCell_other _ _ _ _ (fun e=>hS.2.2 (by rw [e]))) (fun b hS _=>hS)⟩,h4.setCell hb _,fun g' hg=>⟨(h5 g' hg).1,(h5 g' hg).2.1,by simpa using (h5 g' hg).2.2⟩⟩
 obtain ⟨q1,q2⟩:=h2
 refine ⟨q1,?_⟩
 rcases q2 with q2 | ⟨k,cap,cur,e1,e2,e3,e4⟩
 ·exact .inl q2
 ·refine .inr ⟨k,cap,cur,e1,e2,?_,e4⟩
  rw [heap_setCell_other _ _ _ _ (fun e=>ha (by rw [e1];exact congrArg some e))]
  exact e3
theorem GrowR.row (h : GrowR E T L w wr v l) : ∃ A c,v = .slice A l.length c ∧ Row E (fun b=>w.heap.size ≤ b) wr A l.length c l:=by
 obtain ⟨⟨vss,h1,h2,h3⟩,h4,h5⟩:=h
 obtain ⟨A,c,rfl⟩ : ∃ A c,v = .slice A l.length c:=by
  rcases h2.2 with ⟨rfl,h0⟩ | ⟨g,cap,cur,rfl,_⟩
  ·exact ⟨none,0,by rw [h0]⟩
  ·exact ⟨_,_,rfl⟩
 exact ⟨A,c,rfl,own_rows h2 rfl h1 (fun g hg=>(h2.lt g hg).1) fun i u x hi hl=>E.mono (h3 i u x hi hl) fun b _ hS=>hS.1⟩
theorem GrowR.fresh {u : List Value} {x : α} {w1 : World} (h : GrowR E T L w wr v l) (hx : Ext wr w1) {B : Nat} (hB : wr.heap.size ≤ B) (hE : E.R (fun b=>B ≤ b) w' u x) : E.R (inner w v L) w' u x:=by
 obtain ⟨⟨vss,h1,h2,h3⟩,h4,h5⟩:=h
 refine E.mono hE fun b _ hb=>⟨Nat.le_trans h4.size (Nat.le_trans hB hb),fun e=>?_,fun e=>?_⟩
 ·have:=(h2.lt b e.symm).2
  omega
 ·have:=(h5 b e.symm).2.2
  omega
theorem GrowR.snoc {v' : Value} {x : α} {u : List Value} (h : GrowR E T L w wr v l) (hx : E.R (inner w v L) wr u x) (ho : ∀ vss,wr.ownsRow w.heap.size T E.k v l.length vss → w'.ownsRow w.heap.size T E.k v' (l.length + 1) (vss ++ u)) (hg : wr.grownBy w' v.ownBlock)
 (hb : v'.ownBlock = v.ownBlock ∨ v'.ownBlock = some wr.heap.size) : GrowR E T L w w' v' (l ++ [x]) ∧ Below w.heap.size wr w':=by
 obtain ⟨⟨vss,h1,h2,h3⟩,h4,h5⟩:=h
 have hbw : Below w.heap.size wr w':=below_grown h2 hg (ext_sz h4) (Nat.le_refl _)
 have hkeep : ∀ b,inner w v L b → b < wr.heap.size → w'.heap[b]? = wr.heap[b]?:=fun b hS hlt=>hg.block b hlt hS.2.1
 have hin : ∀ b,inner w v L b → b < wr.heap.size → inner w v' L b:=fun b hS hlt=>⟨hS.1,fun e=>by
  rcases hb with hb | hb
  ·exact hS.2.1 (by rw [e,hb])
  ·rw [hb] at e;injection e with e;omega,hS.2.2⟩
 refine ⟨⟨⟨vss ++ [u],by simp [h1],?_,fun i u' x' hi hl=>?_⟩,Below.trans h4 hbw,fun g hgL=>?_⟩,hbw⟩
 ·rw [List.length_append,List.length_cons,List.length_nil,List.flatten_append]
  simpa using ho _ h2
 ·rcases Nat.lt_or_ge i vss.length with hlt | hge
  ·rw [List.getElem?_append_left hlt] at hi
   rw [List.getElem?_append_left (by omega)] at hl
   exact elem_keep (h3 i u' x' hi hl) hkeep hin
  ·rw [List.getElem?_append_right hge] at hi
   rw [List.getElem?_append_right (by omega)] at hl
   have hz : i - vss.length = 0:=by
    have:=(List.getElem?_eq_some_iff.1 hi).1
    simp at this
    omega
   rw [hz] at hi
   rw [← h1,hz] at hl
   simp at hi hl
   subst hi hl
   exact elem_keep hx hkeep hin
 ·obtain ⟨ha,hb',hc⟩:=h5 g hgL
  refine ⟨?_,hb',Nat.lt_of_lt_of_le hc hg.size⟩
  rcases hb with hb | hb
  ·rw [hb];exact ha
  ·rw [hb];intro e;injection e with e;omega
theorem Bx.grown {g : Nat} {U : TypeId} {cs : Array Value} {r : Option Nat} (h : Bx w wr g U cs) (hg : wr.grownBy w' r) (hne : r ≠ some g) (hb : Below w.heap.size wr w') : Bx w w' g U cs:=
 ⟨h.new,(hg.block g h.lt (fun e=>hne e.symm)).trans h.blk,Below.trans h.ext hb⟩
end
end Go.Proofs.YtejdpadhemeldaaGreatDoor
namespace Go.Proofs.YtejdpadhemeldaaGreatDoor
open Go.RowKit
set_option maxRecDepth 100000
abbrev Elem.part : Elem (List Ava):=Elem.slc Elem.ava
theorem infoPart : (Tryz.prog.info? 99).map (fun i=>(i.zero,i.size,i.bytes)) = some (some (.slice none 0 0),1,24):=by kernel_rfl
theorem append_part {w w0 : World} {ops : Array Oper} {rest : List Oper} {o : Oper} {a : Act} {Q : Exit → Act → World → Prop} (hgd : o.guard = none) (s x : Operand)
 (ho : o.op = .call { callee:=.builtin .append,args:=#[s,x],argTypes:=#[94,94] }) {L : Option Nat} (v : Value) (l : List (List Ava)) (hs : a.eval s = v) (hg : GrowR Elem.part 99 L w0 w v l)
 {A : Option Addr} {n c : Nat} {t : TypeId} (y : List Ava) (hr : Row Elem.ava (inner w0 v L) w A n c y) (hx : a.eval x = .slice (some ⟨w.heap.size,0,none⟩) 1 1) (hb : l.length ≤ 4000000)
 (h : ∀ v' w',GrowR Elem.part 99 L w0 w' v' (l ++ [y]) → (w.alloc (.cells #[.slice A n c] t)).grownBy w' v.ownBlock → Below w0.heap.size (w.alloc (.cells #[.slice A n c] t)) w' → wpList Tryz.prog ops Q rest (a.put o.dst v') w') :
 wpList Tryz.prog ops Q (o :: rest) a (w.alloc (.cells #[.slice A n c] t)):=by
 have hg':=hg.later (Ext.alloc w (.cells #[.slice A n c] t))
 have hg2:=hg'
 obtain ⟨⟨vss,h1,h2,h3⟩,h4,h5⟩:=hg'
 refine wpList_plain hgd fun _ hK=>?_
 refine wp_append_sz s x 94 ho w0.heap.size 99 (.slice none 0 0) 1 24 Tryz.underlying94 infoPart rfl (by decide) v l.length vss.flatten hs h2 _ 1 1 [.slice A n c] hx rfl (.inr ⟨_,0,rfl,fun j u hj=>by rw [Nat.zero_add,box_a];simpa using hj⟩)
  (fun u hu=>by simp at hu;subst hu;rfl) (by simp [maxLen];omega) (by omega) (ext_sz h4) ?_
 intro v' w' q1 q2 q3
 have hE : Elem.part.R (inner w0 v L) (w.alloc (.cells #[.slice A n c] t)) [.slice A n c] y:=⟨A,n,c,rfl,hr.ext (Ext.alloc _ _)⟩
 obtain ⟨k1,k2⟩:=hg2.snoc (v':=v') (w':=w') hE (fun vs' hvs'=>by
  have e : vs' = vss.flatten:=by
   have e1:=hvs'.2
   have e2:=h2.2
   rcases e1 with ⟨_,z1⟩ | ⟨g,cap,cur,e3,e4,e5,e6,e7,e8,e9⟩
   ·have z2:=hvs'.1
    have z3:=h2.1
    rw [z1,Nat.zero_mul] at z2 z3
    rw [List.eq_nil_of_length_eq_zero z2,List.eq_nil_of_length_eq_zero z3]
   ·rcases e2 with ⟨z0,z1⟩ | ⟨g',cap',cur',f3,f4,f5,f6,f7,f8,f9⟩
    ·rw [e3] at z0;cases z0
    ·rw [e3] at f3
     injection f3 with f3 _ f3'
     injection f3 with f3
     injection f3 with f3
     subst f3
     rw [e5] at f5
     injection f5 with f5
     injection f5 with f5
     subst f5
     rw [← e9,← f9]
  rw [e]
  exact q1) q2 q3
 exact hK _ _ (h v' w' k1 q2 k2)
theorem rinfoPart : (Tryz.prog.info? 129).map (fun i=>(i.zero,i.size,i.bytes)) = some (some (.slice none 0 0),1,24):=by kernel_rfl
theorem rappend_part {w w0 : World} {ops : Array Oper} {rest : List Oper} {o : Oper} {a : Act} {Q : Exit → Act → World → Prop} (hgd : o.guard = none) (s x : Operand)
 (ho : o.op = .call { callee:=.builtin .append,args:=#[s,x],argTypes:=#[126,126] }) {L : Option Nat} (v : Value) (l : List (List Ava)) (hs : a.eval s = v) (hg : GrowR Elem.part 129 L w0 w v l)
 {A : Option Addr} {n c : Nat} {t : TypeId} (y : List Ava) (hr : Row Elem.ava (inner w0 v L) w A n c y) (hx : a.eval x = .slice (some ⟨w.heap.size,0,none⟩) 1 1) (hb : l.length ≤ 4000000)
 (h : ∀ v' w',GrowR Elem.part 129 L w0 w' v' (l ++ [y]) → (w.alloc (.cells #[.slice A n c] t)).grownBy w' v.ownBlock → Below w0.heap.size (w.alloc (.cells #[.slice A n c] t)) w' → wpList Tryz.prog ops Q rest (a.put o.dst v') w') :
 wpList Tryz.prog ops Q (o :: rest) a (w.alloc (.cells #[.slice A n c] t)):=by
 have hg':=hg.later (Ext.alloc w (.cells #[.slice A n c] t))
 have hg2:=hg'
 obtain ⟨⟨vss,h1,h2,h3⟩,h4,h5⟩:=hg'
 refine wpList_plain hgd fun _ hK=>?_
 refine wp_append_sz s x 126 ho w0.heap.size 129 (.slice none 0 0) 1 24 Tryz.underlying126 rinfoPart rfl (by decide) v l.length vss.flatten hs h2 _ 1 1 [.slice A n c] hx rfl (.inr ⟨_,0,rfl,fun j u hj=>by rw [Nat.zero_add,box_a];simpa using hj⟩)
  (fun u hu=>by simp at hu;subst hu;rfl) (by simp [maxLen];omega) (by omega) (ext_sz h4) ?_
 intro v' w' q1 q2 q3
 have hE : Elem.part.R (inner w0 v L) (w.alloc (.cells #[.slice A n c] t)) [.slice A n c] y:=⟨A,n,c,rfl,hr.ext (Ext.alloc _ _)⟩
 obtain ⟨k1,k2⟩:=hg2.snoc (v':=v') (w':=w') hE (fun vs' hvs'=>by
  have e : vs' = vss.flatten:=by
   have e1:=hvs'.2
   have e2:=h2.2
   rcases e1 with ⟨_,z1⟩ | ⟨g,cap,cur,e3,e4,e5,e6,e7,e8,e9⟩
   ·have z2:=hvs'.1
    have z3:=h2.1
    rw [z1,Nat.zero_mul] at z2 z3
    rw [List.eq_nil_of_length_eq_zero z2,List.eq_nil_of_length_eq_zero z3]
   ·rcases e2 with ⟨z0,z1⟩ | ⟨g',cap',cur',f3,f4,f5,f6,f7,f8,f9⟩
    ·rw [e3] at z0;cases z0
    ·rw [e3] at f3
     injection f3 with f3 _ f3'
     injection f3 with f3
     injection f3 with f3
     subst f3
     rw [e5] at f5
     injection f5 with f5
     injection f5 with f5
     subst f5
     rw [← e9,← f9]
  rw [e]
  exact q1) q2 q3
 exact hK _ _ (h v' w' k1 q2 k2)
end Go.Proofs.YtejdpadhemeldaaGreatDoor
namespace Go.Proofs.YtejdpadhemeldaaGreatDoor
open Go.RowKit
structure Ent where
 name : ByteArray
 atts : List Att
def Elem.ent : Elem Ent:=
 ⟨2,by decide,fun S w v a=>∃ A n c,v = [.string a.name,.slice A n c] ∧ Row Elem.att S w A n c a.atts,fun ⟨_,_,_,h,_⟩=>by rw [h];rfl,fun ⟨A,n,c,h,hr⟩ hk=>⟨A,n,c,h,hr.same hk⟩,fun ⟨A,n,c,h,hr⟩ hs=>⟨A,n,c,h,hr.mono hs⟩⟩
end Go.Proofs.YtejdpadhemeldaaGreatDoor
namespace Go.Proofs.YtejdpadhemeldaaGreatDoor
theorem loB_again (c : UInt8) : loB (loB c) = loB c:=by
 unfold loB
 by_cases h : 65 ≤ c.toNat ∧ c.toNat ≤ 90
 ·rw [if_pos h]
  have e : (UInt8.ofNat (c.toNat + 32)).toNat = c.toNat + 32:=by rw [UInt8.toNat_ofNat'];omega
  rw [if_neg (by rw [e];omega)]
 ·rw [if_neg h,if_neg h]
theorem splitSp_noblank : ∀ (l cur : List UInt8),(32 : UInt8) ∉ cur → ∀ x ∈ splitSp cur l,(32 : UInt8) ∉ x
 | [],cur,h,x,hx=>by simp [splitSp] at hx;rw [hx];exact h
 | c :: t,cur,h,x,hx=>by
  unfold splitSp at hx
  by_cases hc : c = 32
  ·rw [if_pos hc] at hx
   rcases List.mem_cons.1 hx with e | e
   ·rw [e];exact h
   ·exact splitSp_noblank t [] (by simp) x e
  ·rw [if_neg hc] at hx
   exact splitSp_noblank t _ (by simp [h,Ne.symm hc]) x hx
theorem splitSp_from : ∀ (l cur : List UInt8),∀ x ∈ splitSp cur l,∀ b ∈ x,b ∈ cur ∨ b ∈ l
 | [],cur,x,hx,b,hb=>by simp [splitSp] at hx;rw [hx] at hb;exact .inl hb
 | c :: t,cur,x,hx,b,hb=>by
  unfold splitSp at hx
  by_cases hc : c = 32
  ·rw [if_pos hc] at hx
   rcases List.mem_cons.1 hx with e | e
   ·rw [e] at hb;exact .inl hb
   ·rcases splitSp_from t [] x e b hb with h | h
    ·cases h
    ·exact .inr (by simp [h])
  ·rw [if_neg hc] at hx
   rcases splitSp_from t _ x hx b hb with h | h
   ·rcases List.mem_append.1 h with h | h
    ·exact .inl h
    ·simp at h;exact .inr (by simp [h])
   ·exact .inr (by simp [h])
theorem split_join : ∀ ws : List (List UInt8),ws ≠ [] → (∀ x ∈ ws,(32 : UInt8) ∉ x) → splitSp [] (joinSp ws) = ws
 | [],h,_=>absurd rfl h
 | [x],_,h=>by simp only [joinSp];rw [splitSp_none x [] (h x (by simp))];rfl
 | x :: y :: t,_,h=>by
  simp only [joinSp]
  rw [splitSp_hit x [] _ (h x (by simp)),split_join (y :: t) (by simp) (fun z hz=>h z (by simp [hz]))]
  rfl
theorem joinSp_cons_le (x : List UInt8) : ∀ ws : List (List UInt8),(joinSp (x :: ws)).length ≤ x.length + 1 + (joinSp ws).length
 | []=>by simp [joinSp]
 | y :: t=>by simp [joinSp];omega
theorem words_short : ∀ (l cur : List UInt8),(joinSp ((splitSp cur l).filter fun x=>decide (x ≠ []))).length ≤ cur.length + l.length
 | [],cur=>by
  simp only [splitSp]
  by_cases h : cur = []
  ·simp [h,joinSp]
  ·simp [h,joinSp]
 | c :: t,cur=>by
  unfold splitSp
  by_cases hc : c = 32
  ·rw [if_pos hc]
   have ih:=words_short t []
   simp only [List.length_nil] at ih
   by_cases h : cur = []
   ·rw [List.filter_cons,if_neg (by simp [h])]
    simp only [List.length_cons];omega
   ·rw [List.filter_cons,if_pos (by simp [h])]
    have:=joinSp_cons_le cur ((splitSp [] t).filter fun x=>decide (x ≠ []))
    simp only [List.length_cons];omega
  ·rw [if_neg hc]
   have ih:=words_short t (cur ++ [c])
   simp only [List.length_append,List.length_cons,List.length_nil] at ih ⊢
   omega
theorem textN_again {v u : List UInt8} (h : textN v = some u) : textN u = some u ∧ u ≠ [] ∧ u.length ≤ v.length:=by
 unfold textN at h
 simp only at h
 split at h
 ·cases h
 ·rename_i hn
  injection h with h
  obtain ⟨ws,hws⟩ : ∃ ws,ws = wordsB (lowerB v):=⟨_,rfl⟩
  rw [← hws] at h hn
  have hlen : u.length ≤ v.length:=by
   have:=words_short (lowerB v) []
   rw [← h,hws]
   simp only [List.length_nil,Nat.zero_add] at this
   have e : (lowerB v).length = v.length:=by simp [lowerB]
   rw [e] at this
   exact this
  have hne : ws ≠ []:=fun e=>hn (.inl (by rw [e];rfl))
  have h1 : ∀ x ∈ ws,x ≠ [] ∧ (32 : UInt8) ∉ x ∧ ∀ b ∈ x,loB b = b:=by
   intro x hx
   rw [hws] at hx
   obtain ⟨hm,hx0⟩:=List.mem_filter.1 hx
   refine ⟨by simpa using hx0,splitSp_noblank _ _ (by simp) x hm,fun b hb=>?_⟩
   rcases splitSp_from _ _ x hm b hb with e | e
   ·cases e
   ·obtain ⟨c,_,rfl⟩:=List.mem_map.1 e
    exact loB_again c
  have hlo : lowerB u = u:=by
   unfold lowerB
   conv=>rhs;rw [← List.map_id u]
   refine List.map_congr_left fun b hb=>?_
   show loB b = b
   by_cases hb32 : b = 32
   ·rw [hb32];rfl
   ·rw [← h] at hb
    obtain ⟨x,hx,hbx⟩:=(mem_joinSp b hb32 ws).1 hb
    exact (h1 x hx).2.2 b hbx
  have hw : wordsB u = ws:=by
   unfold wordsB
   rw [← h,split_join ws hne (fun x hx=>(h1 x hx).2.1),List.filter_eq_self]
   intro x hx
   exact decide_eq_true (h1 x hx).1
  refine ⟨?_,fun e=>hn (.inl (by rw [h,e])),hlen⟩
  unfold textN
  simp only [hlo,hw]
  rw [if_neg hn,h]
theorem normB_again {k : Nat} {v u : List UInt8} (h : normB k v = some u) : normB k u = some u:=by
 unfold normB at h
 split at h
 ·cases h
 rename_i h0
 by_cases h1 : k = 1
 ·rw [if_pos h1] at h
  obtain ⟨a,b,c⟩:=textN_again h
  unfold normB
  rw [if_neg (by rintro (e | e);exact b e;exact h0 (.inr (by omega))),if_pos h1,a]
 ·rw [if_neg h1] at h
  by_cases h3 : k = 3
  ·rw [if_pos h3] at h
   split at h
   ·rename_i hi
    injection h with h
    subst h
    unfold normB
    rw [if_neg h0,if_neg h1,if_pos h3,if_pos hi]
   ·cases h
  ·rw [if_neg h3] at h;cases h
theorem digit_ok : ∀ n < 16,hexB (digitB n) = some n ∧ specB (digitB n) = false ∧ digitB n ≠ 35 ∧ digitB n ≠ 61 ∧ digitB n ≠ 32 ∧ digitB n ≠ 92 ∧ digitB n ≠ 44 ∧ digitB n ≠ 43:=by decide
theorem writeF_nil {b : Bool} {t : List UInt8} : (writeF b t).isEmpty = t.isEmpty:=by
 cases t with
 | nil=>rfl
 | cons c t=>
  simp only [writeF]
  split
  ·rfl
  ·split <;> rfl
theorem read_write : ∀ (v : List UInt8) (b : Bool) (acc : List UInt8),readF acc (writeF b v) = some (acc ++ v)
 | [],b,acc=>by simp [writeF,readF]
 | c :: t,b,acc=>by
  have ih:=fun a=>read_write t false a
  by_cases h1 : ((c == 32 && (b || t.isEmpty)) || (c == 35 && b) || specB c) = true
  ·rw [writeF,if_pos h1]
   have h2 : (specB c || c == 35 || c == 61 || c == 32) = true:=by
    simp only [Bool.or_eq_true,Bool.and_eq_true] at h1 ⊢
    rcases h1 with (h1 | h1) | h1
    ·exact .inr h1.1
    ·exact .inl (.inl (.inr h1.1))
    ·exact .inl (.inl (.inl h1))
   show readF acc (92 :: c :: writeF false t) = _
   rw [readF.eq_def]
   simp only [if_true,h2,ih]
   simp
  ·rw [writeF,if_neg h1]
   by_cases h3 : c.toNat < 32 ∨ 126 < c.toNat
   ·rw [if_pos h3]
    have hc:=c.toNat_lt
    obtain ⟨d1,d2,d3,d4,d5,-,-,-⟩:=digit_ok (c.toNat / 16) (by omega)
    obtain ⟨e1,-⟩:=digit_ok (c.toNat % 16) (by omega)
    show readF acc (92 :: digitB (c.toNat / 16) :: digitB (c.toNat % 16) :: writeF false t) = _
    rw [readF.eq_def]
    have h4 : (specB (digitB (c.toNat / 16)) || digitB (c.toNat / 16) == 35 || digitB (c.toNat / 16) == 61 || digitB (c.toNat / 16) == 32) = false:=by simp [d2,d3,d4,d5]
    simp only [if_true,h4,d1,e1,ih,Bool.false_eq_true,if_false]
    have h5 : UInt8.ofNat (16 * (c.toNat / 16) + c.toNat % 16) = c:=by
     rw [show 16 * (c.toNat / 16) + c.toNat % 16 = c.toNat by omega]
     exact UInt8.ofNat_toNat
    rw [h5]
    simp
   ·rw [if_neg h3]
    show readF acc (c :: writeF false t) = _
    have hc92 : c ≠ 92:=by
     intro e
     subst e
     exact h1 (by simp [specB])
    have hc0 : c ≠ 0:=by
     intro e
     subst e
     exact h3 (.inl (by decide))
    have hs : specB c = false:=by
     cases hs : specB c with
     | false=>rfl
     | true=>exact absurd (by rw [hs];simp) h1
    have hb : (c == 32 && (writeF false t).isEmpty) = false:=by
     rw [writeF_nil]
     cases hq : (c == 32 && t.isEmpty) with
     | false=>rfl
     | true=>
      rw [Bool.and_eq_true] at hq
      exact absurd (by rw [hq.1,hq.2];simp) h1
    rw [readF.eq_def]
    simp only [if_neg hc92]
    rw [if_neg (by rw [hs,hb];simp [hc0]),ih]
    simp
theorem value_write {v : List UInt8} : valueB (writeF true v) = some v:=by
 unfold valueB
 have hh : ¬ ((writeF true v).head? = some 32 ∨ (writeF true v).head? = some 35):=by
  cases v with
  | nil=>simp [writeF]
  | cons c t=>
   by_cases h1 : ((c == 32 && (true || t.isEmpty)) || (c == 35 && true) || specB c) = true
   ·rw [writeF,if_pos h1];simp
   ·rw [writeF,if_neg h1]
    have h32 : c ≠ 32:=by rintro rfl;exact h1 (by simp)
    have h35 : c ≠ 35:=by rintro rfl;exact h1 (by simp)
    split
    ·simp
    ·simp [h32,h35]
 rw [if_neg hh,read_write]
 rfl
def clos (sep : UInt8) : List UInt8 → Bool
 | []=>true
 | c :: t=>
  if c = sep then false
  else if c = 92 then
   match t with
   | []=>false
   | _ :: t=>clos sep t
  else clos sep t
theorem split_clos (sep : UInt8) : ∀ (n : Nat) (x : List UInt8),x.length ≤ n → clos sep x = true → ∀ cur r,splitF sep cur (x ++ r) = splitF sep (cur ++ x) r
 | _,[],_,_,cur,r=>by simp
 | 0,c :: t,hn,_,_,_=>by simp at hn
 | n + 1,c :: t,hn,h,cur,r=>by
  simp only [List.length_cons] at hn
  rw [clos.eq_def] at h
  simp only at h
  by_cases h1 : c = sep
  ·rw [if_pos h1] at h;cases h
  rw [if_neg h1] at h
  by_cases h2 : c = 92
  ·rw [if_pos h2] at h
   cases t with
   | nil=>cases h
   | cons d t=>
    simp only [List.length_cons] at hn
    show splitF sep cur (c :: d :: (t ++ r)) = _
    rw [splitF.eq_def]
    simp only [if_neg h1,if_pos h2]
    rw [split_clos sep n t (by omega) h,h2]
    simp
  ·rw [if_neg h2] at h
   show splitF sep cur (c :: (t ++ r)) = _
   rw [splitF.eq_def]
   simp only [if_neg h1,if_neg h2]
   rw [split_clos sep n t (by omega) h]
   simp
theorem clos_append (sep : UInt8) : ∀ (n : Nat) (x y : List UInt8),x.length ≤ n → clos sep x = true → clos sep y = true → clos sep (x ++ y) = true
 | _,[],y,_,_,h=>h
 | 0,c :: t,y,hn,_,_=>by simp at hn
 | n + 1,c :: t,y,hn,h,k=>by
  simp only [List.length_cons] at hn
  rw [clos.eq_def] at h
  simp only at h
  by_cases h1 : c = sep
  ·rw [if_pos h1] at h;cases h
  rw [if_neg h1] at h
  by_cases h2 : c = 92
  ·rw [if_pos h2] at h
   cases t with
   | nil=>cases h
   | cons d t=>
    simp only [List.length_cons] at hn
    show clos sep (c :: d :: (t ++ y)) = true
    rw [clos.eq_def]
    simp only [if_neg h1,if_pos h2]
    exact clos_append sep n t y (by omega) h k
  ·rw [if_neg h2] at h
   show clos sep (c :: (t ++ y)) = true
   rw [clos.eq_def]
   simp only [if_neg h1,if_neg h2]
   exact clos_append sep n t y (by omega) h k
theorem clos_app {sep : UInt8} {x y : List UInt8} (h : clos sep x = true) (k : clos sep y = true) : clos sep (x ++ y) = true:=clos_append sep _ x y (Nat.le_refl _) h k
theorem clos_one {sep c : UInt8} {y : List UInt8} (h1 : c ≠ sep) (h2 : c ≠ 92) (k : clos sep y = true) : clos sep (c :: y) = true:=by
 rw [clos.eq_def]
 simp only [if_neg h1,if_neg h2]
 exact k
theorem clos_esc {sep c : UInt8} {y : List UInt8} (h1 : (92 : UInt8) ≠ sep) (k : clos sep y = true) : clos sep (92 :: c :: y) = true:=by
 rw [clos.eq_def]
 simp only [if_neg h1,if_true]
 exact k
theorem clos_write {sep : UInt8} (hs : sep = 44 ∨ sep = 43) : ∀ (v : List UInt8) (b : Bool),clos sep (writeF b v) = true
 | [],b=>rfl
 | c :: t,b=>by
  have ih:=clos_write hs t false
  have h92 : (92 : UInt8) ≠ sep:=by rcases hs with rfl | rfl <;> decide
  by_cases h1 : ((c == 32 && (b || t.isEmpty)) || (c == 35 && b) || specB c) = true
  ·rw [writeF,if_pos h1]
   exact clos_esc h92 ih
  ·rw [writeF,if_neg h1]
   by_cases h3 : c.toNat < 32 ∨ 126 < c.toNat
   ·rw [if_pos h3]
    have hc:=c.toNat_lt
    obtain ⟨-,-,-,-,-,e1,e2,e3⟩:=digit_ok (c.toNat % 16) (by omega)
    exact clos_esc h92 (clos_one (by rcases hs with rfl | rfl <;> assumption) e1 ih)
   ·rw [if_neg h3]
    have hs' : specB c = false:=by
     cases hq : specB c with
     | false=>rfl
     | true=>exact absurd (by rw [hq];simp) h1
    refine clos_one ?_ ?_ ih
    ·rintro rfl
     rcases hs with rfl | rfl <;> exact absurd hs' (by decide)
    ·rintro rfl
     exact absurd hs' (by decide)
theorem typ_clos : ∀ p ∈ typTab,clos 44 p.1 = true ∧ clos 43 p.1 = true ∧ (61 : UInt8) ∉ p.1 ∧ p.1 ≠ []:=by decide
theorem typeB_mem (n : List UInt8) : typeB n ∈ typTab ∨ typeB n = ([],0):=by
 unfold typeB
 cases h : typTab.find? (fun p=>lowerB p.1 == lowerB n) with
 | none=>exact .inr rfl
 | some p=>exact .inl (List.mem_of_find?_eq_some h)
def avaT (a : Ava) : List UInt8:=a.type ++ 61 :: writeF true a.val
theorem ok_type {a : Ava} (h : avaOk a = true) : typeB a.type ∈ typTab ∧ (typeB a.type).1 = a.type ∧ (typeB a.type).2 ≠ 0 ∧ (normB (typeB a.type).2 a.val).isSome = true:=by
 unfold avaOk at h
 rw [Bool.and_eq_true,Bool.and_eq_true,Bool.or_eq_true,decide_eq_true_eq,decide_eq_true_eq,decide_eq_true_eq] at h
 obtain ⟨⟨h1,h2⟩,h3⟩:=h
 refine ⟨?_,h1,by omega,h3⟩
 rcases typeB_mem a.type with h | h
 ·exact h
 ·rw [h] at h2;omega
theorem avaT_clos {a : Ava} (h : avaOk a = true) {sep : UInt8} (hs : sep = 44 ∨ sep = 43) : clos sep (avaT a) = true:=by
 obtain ⟨h1,h2,-,-⟩:=ok_type h
 have h3:=typ_clos _ h1
 rw [h2] at h3
 refine clos_app ?_ (clos_one ?_ (by decide) (clos_write hs _ _))
 ·rcases hs with rfl | rfl
  ·exact h3.1
  ·exact h3.2.1
 ·rcases hs with rfl | rfl <;> decide
theorem avaB_avaT {a : Ava} (h : avaOk a = true) : avaB (avaT a) = some a:=by
 obtain ⟨h1,h2,h3,-⟩:=ok_type h
 have h4:=typ_clos _ h1
 rw [h2] at h4
 unfold avaB avaT
 rw [cutEq_hit _ _ h4.2.2.1]
 simp only
 rw [if_neg h3,value_write,h2]
 rfl
theorem printF_split : ∀ l : List Ava,l ≠ [] → (∀ a ∈ l,avaOk a = true) → splitF 43 [] (printF l) = l.map avaT
 | [],h,_=>absurd rfl h
 | [a],_,h=>by
  have hc:=split_clos 43 _ (avaT a) (Nat.le_refl _) (avaT_clos (h a (by simp)) (.inr rfl)) [] []
  rw [List.append_nil,List.nil_append] at hc
  show splitF 43 [] (avaT a) = _
  rw [hc]
  rfl
 | a :: b :: t,_,h=>by
  have hc:=split_clos 43 _ (avaT a) (Nat.le_refl _) (avaT_clos (h a (by simp)) (.inr rfl)) [] (43 :: printF (b :: t))
  have ih:=printF_split (b :: t) (by simp) (fun x hx=>h x (by simp [hx]))
  have e : printF (a :: b :: t) = avaT a ++ 43 :: printF (b :: t):=by simp [printF,avaT]
  rw [e,hc,List.nil_append,splitF.eq_def]
  simp only [if_true]
  rw [ih]
  rfl
theorem printF_clos : ∀ l : List Ava,(∀ a ∈ l,avaOk a = true) → clos 44 (printF l) = true
 | [],_=>rfl
 | [a],h=>avaT_clos (h a (by simp)) (.inl rfl)
 | a :: b :: t,h=>by
  have e : printF (a :: b :: t) = avaT a ++ 43 :: printF (b :: t):=by simp [printF,avaT]
  rw [e]
  exact clos_app (avaT_clos (h a (by simp)) (.inl rfl)) (clos_one (by decide) (by decide) (printF_clos (b :: t) (fun x hx=>h x (by simp [hx]))))
theorem joinC_split : ∀ l : List (List UInt8),l ≠ [] → (∀ x ∈ l,clos 44 x = true) → splitF 44 [] (joinC l) = l
 | [],h,_=>absurd rfl h
 | [x],_,h=>by
  have hc:=split_clos 44 _ x (Nat.le_refl _) (h x (by simp)) [] []
  rw [List.append_nil,List.nil_append] at hc
  show splitF 44 [] x = _
  rw [hc]
  rfl
 | x :: y :: t,_,h=>by
  have hc:=split_clos 44 _ x (Nat.le_refl _) (h x (by simp)) [] (44 :: joinC (y :: t))
  have ih:=joinC_split (y :: t) (by simp) (fun z hz=>h z (by simp [hz]))
  show splitF 44 [] (x ++ 44 :: joinC (y :: t)) = _
  rw [hc,List.nil_append,splitF.eq_def]
  simp only [if_true]
  rw [ih]
theorem normA_again {l : List Ava} (h : l.all avaOk = true) : normA (normA l) = normA l ∧ (normA l).all avaOk = true:=by
 rw [List.all_eq_true] at h
 constructor
 ·unfold normA
  rw [List.map_map]
  refine List.map_congr_left fun a ha=>?_
  obtain ⟨-,-,-,h4⟩:=ok_type (h a ha)
  obtain ⟨u,hu⟩:=Option.isSome_iff_exists.1 h4
  simp only [Function.comp,hu,Option.getD_some,normB_again hu]
 ·rw [List.all_eq_true]
  intro b hb
  obtain ⟨a,ha,rfl⟩:=List.mem_map.1 hb
  have hk:=h a ha
  obtain ⟨-,-,-,h4⟩:=ok_type hk
  obtain ⟨u,hu⟩:=Option.isSome_iff_exists.1 h4
  unfold avaOk at hk ⊢
  simp only [hu,Option.getD_some,normB_again hu] at hk ⊢
  exact hk
theorem normA_rising : ∀ l : List Ava,risingB (normA l) = risingB l
 | []=>rfl
 | [a]=>rfl
 | a :: b :: t=>by
  have ih:=normA_rising (b :: t)
  unfold normA at ih ⊢
  simp only [List.map_cons,risingB] at ih ⊢
  rw [ih]
theorem normA_formed {l : List Ava} (h : formedA l = true) : formedA (normA l) = true:=by
 unfold formedA at h ⊢
 rw [Bool.and_eq_true,Bool.and_eq_true] at h
 rw [normA_rising,h.2,(normA_again h.1.2).2,show (normA l).length = l.length by simp [normA],h.1.1]
 rfl
theorem sortA_rising {l : List Ava} (h : formedA l = true) : sortA l = l:=by
 unfold formedA at h
 rw [Bool.and_eq_true,Bool.and_eq_true,Bool.and_eq_true,decide_eq_true_eq,decide_eq_true_eq] at h
 obtain ⟨⟨⟨h1,h2⟩,-⟩,h4⟩:=h
 match l,h2 with
 | [],_=>rfl
 | [a],_=>rfl
 | [a,b],_=>
  simp only [risingB,Bool.and_true] at h4
  simp [sortA,insA,h4]
 | [a,b,c],_=>
  simp only [risingB,Bool.and_true,Bool.and_eq_true] at h4
  have h5:=ltB_trans _ _ _ h4.1 h4.2
  simp [sortA,insA,h4.1,h4.2,h5]
theorem mapM_some {α β : Type} {f : α → Option β} {g : β → α} : ∀ {l : List β},(∀ x ∈ l,f (g x) = some x) → (l.map g).mapM f = some l
 | [],_=>rfl
 | x :: t,h=>by
  rw [List.map_cons,List.mapM_cons,h x (by simp),mapM_some (fun y hy=>h y (by simp [hy]))]
  rfl
theorem partB_print {l : List Ava} (h : formedA l = true) : partB (printF l) = some l:=by
 have hall : ∀ a ∈ l,avaOk a = true:=by
  unfold formedA at h
  rw [Bool.and_eq_true,Bool.and_eq_true] at h
  exact List.all_eq_true.1 h.1.2
 have hne : l ≠ []:=by
  rintro rfl
  cases h
 unfold partB
 rw [printF_split l hne hall,mapM_some (fun a ha=>avaB_avaT (hall a ha))]
 simp only
 rw [sortA_rising h,if_pos h]
theorem partB_formedN {s : List UInt8} {l : List Ava} (h : partB s = some l) : formedA l = true:=by
 unfold partB at h
 cases hm : (splitF 43 [] s).mapM avaB with
 | none=>rw [hm] at h;cases h
 | some k=>
  rw [hm] at h
  simp only at h
  split at h
  ·rename_i hf
   injection h with h
   rw [← h];exact hf
  ·cases h
theorem mapM_src {α β : Type} {f : α → Option β} : ∀ {x : List α} {l : List β},x.mapM f = some l → (∀ y ∈ l,∃ a ∈ x,f a = some y) ∧ l.length = x.length
 | [],l,h=>by simp at h;subst h;simp
 | a :: t,l,h=>by
  rw [List.mapM_cons] at h
  cases ha : f a with
  | none=>rw [ha] at h;cases h
  | some v=>
   rw [ha] at h
   cases hb : t.mapM f with
   | none=>rw [hb] at h;cases h
   | some w=>
    rw [hb] at h
    cases h
    obtain ⟨h1,h2⟩:=mapM_src hb
    refine ⟨fun y hy=>?_,by simp [h2]⟩
    rcases List.mem_cons.1 hy with e | e
    ·exact ⟨a,by simp,by rw [e];exact ha⟩
    ·obtain ⟨c,hc,hf⟩:=h1 y e
     exact ⟨c,by simp [hc],hf⟩
theorem joinC_ne {x : List UInt8} {t : List (List UInt8)} (h : x ≠ []) : joinC (x :: t) ≠ []:=by
 cases t with
 | nil=>exact h
 | cons y t=>simp [joinC]
theorem printF_ne {l : List Ava} (h : l ≠ []) : printF l ≠ []:=by
 match l,h with
 | [a],_=>simp [printF]
 | a :: b :: t,_=>simp [printF]
theorem parts_again {s : List UInt8} {l : List (List UInt8)} (h : partsB s = .ok l) : partsB (joinC l) = .ok l:=by
 unfold partsB at h
 by_cases h1 : 1000 < s.length
 ·rw [if_pos h1] at h;cases h
 rw [if_neg h1] at h
 by_cases h2 : s = []
 ·rw [if_pos h2] at h
  injection h with h
  subst h
  rfl
 rw [if_neg h2] at h
 by_cases h3 : 12 < (splitF 44 [] s).length
 ·rw [if_pos h3] at h;cases h
 rw [if_neg h3] at h
 cases hm : (splitF 44 [] s).mapM partB with
 | none=>rw [hm] at h;cases h
 | some k=>
  rw [hm] at h
  simp only at h
  by_cases h4 : 1000 < (joinC (k.map fun p=>printB (normA p))).length
  ·rw [if_pos h4] at h;cases h
  rw [if_neg h4] at h
  injection h with h
  obtain ⟨hk1,hk2⟩:=mapM_src hm
  have hlen:=(splitF_length 44 s.length [] s (Nat.le_refl _)).2.1
  have hf : ∀ p ∈ k,formedA p = true:=fun p hp=>by obtain ⟨a,-,ha⟩:=hk1 p hp;exact partB_formedN ha
  have hl : l = k.map fun p=>printF (normA p):=by
   rw [← h]
   refine List.map_congr_left fun p hp=>?_
   unfold printB
   rw [if_pos (normA_formed (hf p hp))]
  have hn : ∀ q ∈ k.map normA,formedA q = true:=by
   intro q hq
   obtain ⟨p,hp,rfl⟩:=List.mem_map.1 hq
   exact normA_formed (hf p hp)
  have hl2 : l = (k.map normA).map printF:=by rw [hl,List.map_map];rfl
  have hkne : k ≠ []:=by rintro rfl;simp at hk2;omega
  have hlne : l ≠ []:=by rw [hl];simp [hkne]
  have hcl : ∀ x ∈ l,clos 44 x = true:=by
   intro x hx
   rw [hl2] at hx
   obtain ⟨q,hq,rfl⟩:=List.mem_map.1 hx
   have:=hn q hq
   unfold formedA at this
   rw [Bool.and_eq_true,Bool.and_eq_true] at this
   exact printF_clos q (List.all_eq_true.1 this.1.2)
  have hsp:=joinC_split l hlne hcl
  have hjn : joinC l ≠ []:=by
   cases hk : l with
   | nil=>exact absurd hk hlne
   | cons x t=>
    refine joinC_ne ?_
    have hx : x ∈ (k.map normA).map printF:=by rw [← hl2,hk];simp
    obtain ⟨q,hq,rfl⟩:=List.mem_map.1 hx
    exact printF_ne (by rintro rfl;have:=hn _ hq;cases this)
  unfold partsB
  rw [if_neg (by rw [← h];exact h4),if_neg hjn,hsp,if_neg (by rw [hl,List.length_map,hk2];exact h3)]
  have hmm : l.mapM partB = some (k.map normA):=by
   rw [hl2]
   exact mapM_some fun q hq=>partB_print (hn q hq)
  rw [hmm]
  have e2 : (k.map normA).map (fun p=>printB (normA p)) = l:=by
   rw [hl2]
   refine List.map_congr_left fun q hq=>?_
   obtain ⟨p,hp,rfl⟩:=List.mem_map.1 hq
   have hfp:=hf p hp
   have ha : p.all avaOk = true:=by
    unfold formedA at hfp
    rw [Bool.and_eq_true,Bool.and_eq_true] at hfp
    exact hfp.1.2
   rw [(normA_again ha).1]
   unfold printB
   rw [if_pos (normA_formed hfp)]
  simp only [e2]
  rw [if_neg (by rw [← h];exact h4)]
end Go.Proofs.YtejdpadhemeldaaGreatDoor
namespace Go.Proofs.YtejdpadhemeldaaGreatDoor
open Go.RowKit
set_option maxRecDepth 100000
def BoolSays (w : World) (e : Ending) (w' : World) : Prop:=∃ b : Bool,e = .returned (.bool b) ∧ Ext w w'
theorem BoolSays.of {w w' : World} {e : Ending} {b : Bool} (h : e = .returned (.bool b)) (hx : Ext w w') : BoolSays w e w':=⟨b,h,hx⟩
theorem rsmall09_any {S : Nat → Prop} {A : Option Addr} {n c : Nat} {w : World} {l : List Ent} (h : Row Elem.ent S w A n c l) : Calls Tryz.prog 5 #[.slice A n c] w (BoolSays w):=by
 have HR:=hid h
 have hn : n ≤ 9223372036854775807:=by have:=h.cap;have:=h.most;simp only [maxLen] at this;omega
 clear h
 go_enter Tryz.func5,Tryz.ntmps5
 go_wp2
 go_loopw [3,9] (fun z i wr=>∃ (j : Nat) (y : Int),j ≤ n ∧ i = .int .i64 j ∧ z = .int .i64 y ∧ Hid (Ext w wr)) (fun _ i _=>n - (intOf i).toNat)
 case atStart=>exact ⟨0,0,by omega,rfl,rfl,Ext.refl _⟩
 case round=>
  obtain ⟨j,y,hj,rfl,rfl,hx⟩:=hrel
  by_cases hlt : j < n
  ·obtain ⟨b1,o1,v1,x1,rfl,g1,-,⟨A1,n1,c1,rfl,r1⟩,q1⟩:=(HR.out.ext hx.out).at_ hlt
   have e10:=q1 0 _ rfl
   have e11:=q1 1 _ rfl
   simp only [Elem.ent,Nat.add_zero] at e10 e11
   have R1:=hid r1
   have hn1 : n1 ≤ 9223372036854775807:=by have:=r1.cap;have:=r1.most;simp only [maxLen] at this;omega
   clear q1 g1 r1
   go_wp2
   obtain ⟨wo,hwo⟩ : ∃ x,x = wr:=⟨_,rfl⟩
   subst hwo
   go_loopw [3,28] (fun z i wr=>∃ (k : Nat) (y : Int),k ≤ n1 ∧ i = .int .i64 k ∧ z = .int .i64 y ∧ wr = wo) (fun _ i _=>n1 - (intOf i).toNat)
   case atStart=>exact ⟨0,_,by omega,rfl,rfl,rfl⟩
   case round=>
    obtain ⟨k,y2,hk,rfl,rfl,rfl⟩:=hrel
    by_cases hlt2 : k < n1
    ·obtain ⟨b2,o2,v2,x2,rfl,g2,-,⟨A2,n2,c2,rfl,r2⟩,q2⟩:=R1.out.at_ hlt2
     have e20:=q2 0 _ rfl
     have e21:=q2 1 _ rfl
     simp only [Elem.att,Nat.add_zero] at e20 e21
     have R2:=hid r2
     have hn2 : n2 ≤ 9223372036854775807:=by have:=r2.cap;have:=r2.most;simp only [maxLen] at this;omega
     clear q2 g2 r2
     go_wp2
     obtain ⟨wp,hwp⟩ : ∃ x,x = wr:=⟨_,rfl⟩
     subst hwp
     go_loopw [3,54] (fun z i wr=>∃ (p : Nat) (y : Int),p ≤ n2 ∧ i = .int .i64 p ∧ z = .int .i64 y ∧ wr = wp) (fun _ i _=>n2 - (intOf i).toNat)
     case atStart=>exact ⟨0,_,by omega,rfl,rfl,rfl⟩
     case round=>
      obtain ⟨p,y3,hp,rfl,rfl,rfl⟩:=hrel
      by_cases hlt3 : p < n2
      ·obtain ⟨b3,o3,rfl,c3⟩:=R2.out.str_cell (by omega)
       have e30:=c3 p hlt3
       clear c3
       generalize x2.vals[p]?.getD ByteArray.empty = s3 at *
       go_wp2
       exact ⟨⟨p + 1,_,by omega,by go_num,rfl,by first | rfl | trivial⟩,by simp [intOf];omega⟩
      ·obtain rfl : p = n2:=by omega
       go_wp2
       exact ⟨⟨k + 1,_,by omega,by go_num,rfl,by first | rfl | trivial⟩,by simp [intOf];omega⟩
    ·obtain rfl : k = n1:=by omega
     go_wp2
     all_goals first
      | (go_ret;exact BoolSays.of rfl (hx.out))
      | exact ⟨⟨j + 1,_,by omega,by go_num,rfl,hx⟩,by simp [intOf];omega⟩
  ·obtain rfl : j = n:=by omega
   go_wp2
   go_ret
   exact BoolSays.of rfl (hx.out)
end Go.Proofs.YtejdpadhemeldaaGreatDoor
