/- Lemmas of the walk that the last text of this claim joins. -/
import Derived.Test.YtahahafhendgoaaGreatDoorZ01
import Derived.Test.YtahahafhendgoaaGreatDoorZ08
import Derived.Test.YtahahafhendgoaaGreatDoorZ11
import Derived.Test.YtahahafhendgoaaGreatDoorZ18
import Derived.Laws.Cover1
import Derived.Test.YtahahafhendgoaaGreatDoorZ17
import Derived.Test.YtahahafhendgoaaGreatDoorZ07
import Derived.Test.YtahahafhendgoaaGreatDoorZ06
set_option maxHeartbeats 40000000
set_option linter.unusedVariables false
set_option linter.unusedSimpArgs false
namespace Go.Proofs.YtahahafhendgoaaGreatDoor
set_option maxRecDepth 10000
def bitsI (n : Int) : Nat:=FloatKind.nearest .f64 n
theorem log_le {m : Nat} (hm : 0 < m) (h : m < 9007199254740992) : m.log2 ≤ 52:=by
 have : m.log2 < 53:=(Nat.log2_lt (by omega)).2 (by simpa using h)
 omega
def fullM (m : Nat) : Nat:=m * 2 ^ (52 - m.log2)
theorem full_bounds {m : Nat} (hm : 0 < m) (h : m < 9007199254740992) : 4503599627370496 ≤ fullM m ∧ fullM m < 9007199254740992:=by
 have hl:=log_le hm h
 have h1 : 2 ^ m.log2 ≤ m:=Nat.log2_self_le (by omega)
 have h2 : m < 2 ^ (m.log2 + 1):=Nat.lt_log2_self
 unfold fullM
 constructor
 ·calc 4503599627370496 = 2 ^ m.log2 * 2 ^ (52 - m.log2):=by rw [← Nat.pow_add,show m.log2 + (52 - m.log2) = 52 by omega]
   _ ≤ m * 2 ^ (52 - m.log2):=Nat.mul_le_mul_right _ h1
 ·calc m * 2 ^ (52 - m.log2) < 2 ^ (m.log2 + 1) * 2 ^ (52 - m.log2):=Nat.mul_lt_mul_of_pos_right h2 (Nat.pow_pos (by decide))
   _ = 9007199254740992:=by rw [← Nat.pow_add,show m.log2 + 1 + (52 - m.log2) = 53 by omega]
theorem near_form (neg : Bool) {m : Nat} (hm : 0 < m) (h : m < 9007199254740992) :
 Ieee.double.nearest neg m 0 = Ieee.double.word neg ((m.log2 + 1022) * 4503599627370496 + fullM m):=by
 have hl:=log_le hm h
 obtain ⟨b1,b2⟩:=full_bounds hm h
 have hp : Ieee.double.leastPlace = -1074:=by decide
 have hf : Ieee.double.fractionBits = 52:=rfl
 have hb : Ieee.double.binade = 4503599627370496:=by decide
 have hi : Ieee.double.infRung = 9218868437227405312:=by decide
 unfold Ieee.Format.nearest
 rw [if_neg (by omega)]
 simp only [hp,hf,hb,hi]
 have hmax : max ((0 : Int) + (m.log2 : Int) - (52 : Nat)) (-1074) = (m.log2 : Int) - 52:=by omega
 rw [hmax]
 have e1 : ((0 : Int) - ((m.log2 : Int) - 52)).toNat = 52 - m.log2:=by omega
 have e2 : ((m.log2 : Int) - 52 - 0).toNat = 0:=by omega
 have e3 : ((m.log2 : Int) - 52 - -1074).toNat = m.log2 + 1022:=by omega
 rw [e1,e2,e3]
 have hc : Ieee.Toward.even.cut neg (m <<< (52 - m.log2)) 0 = fullM m:=by
  unfold Ieee.Toward.cut fullM
  simp [Nat.shiftLeft_eq,Nat.mod_one]
 rw [hc,Nat.min_eq_left (by omega)]
theorem read_word (neg : Bool) {L K : Nat} (hl : L ≤ 52) (h1 : 4503599627370496 ≤ K) (h2 : K < 9007199254740992) :
 Ieee.double.read (Ieee.double.word neg ((L + 1022) * 4503599627370496 + K)) = .number neg K ((L : Int) - 52):=by
 have hp : Ieee.double.leastPlace = -1074:=by decide
 have hb : Ieee.double.binade = 4503599627370496:=by decide
 have hi : Ieee.double.infRung = 9218868437227405312:=by decide
 have hs : Ieee.double.signWeight = 9223372036854775808:=by decide
 have hw : Ieee.double.word neg ((L + 1022) * 4503599627370496 + K) = (if neg then 9223372036854775808 else 0) + ((L + 1022) * 4503599627370496 + K):=by
  unfold Ieee.Format.word
  rw [hs]
  cases neg <;> simp
 unfold Ieee.Format.read
 simp only [hp,hb,hi,hs,hw]
 have hneg : (((if neg then 9223372036854775808 else 0) + ((L + 1022) * 4503599627370496 + K)) / 9223372036854775808 % 2 == 1) = neg:=by
  cases neg
  ·rw [beq_eq_false_iff_ne];simp only [Bool.false_eq_true,if_false];omega
  ·rw [beq_iff_eq];simp only [if_true];omega
 have hr : ((if neg then 9223372036854775808 else 0) + ((L + 1022) * 4503599627370496 + K)) % 9223372036854775808 = (L + 1022) * 4503599627370496 + K:=by
  cases neg
  ·simp only [Bool.false_eq_true,if_false];omega
  ·simp only [if_true];omega
 rw [hneg,hr,if_neg (by omega),if_pos (by omega)]
 have q1 : 4503599627370496 + ((L + 1022) * 4503599627370496 + K) % 4503599627370496 = K:=by omega
 have q2 : (-1074 : Int) + ((((L + 1022) * 4503599627370496 + K) / 4503599627370496 - 1 : Nat) : Int) = (L : Int) - 52:=by omega
 rw [q1,q2]
theorem read_bits {n : Int} (h0 : n ≠ 0) (h : n.natAbs < 9007199254740992) : Ieee.double.read (bitsI n) = .number (decide (n < 0)) (fullM n.natAbs) ((n.natAbs.log2 : Int) - 52):=by
 have hm : 0 < n.natAbs:=by omega
 obtain ⟨b1,b2⟩:=full_bounds hm h
 have e : bitsI n = Ieee.double.nearest (decide (n < 0)) n.natAbs 0:=rfl
 rw [e,near_form _ hm h,read_word _ (log_le hm h) b1 b2]
theorem bits_zero : bitsI 0 = 0:=by decide
theorem read_zero : Ieee.double.read 0 = .number false 0 (-1074):=by decide
theorem signed_scaled {n : Int} (h0 : n ≠ 0) (h : n.natAbs < 9007199254740992) {base : Int} (hb : base ≤ (n.natAbs.log2 : Int) - 52) :
 Ieee.signed (decide (n < 0)) (fullM n.natAbs) ((n.natAbs.log2 : Int) - 52 - base).toNat = n * 2 ^ (-base).toNat:=by
 have hm : 0 < n.natAbs:=by omega
 have hl:=log_le hm h
 have hs : fullM n.natAbs <<< ((n.natAbs.log2 : Int) - 52 - base).toNat = n.natAbs * 2 ^ (-base).toNat:=by
  unfold fullM
  rw [Nat.shiftLeft_eq,Nat.mul_assoc,← Nat.pow_add]
  congr 2
  omega
 unfold Ieee.signed
 rw [hs]
 by_cases hn : n < 0
 ·rw [decide_eq_true hn,if_pos rfl]
  have e : n = -(n.natAbs : Int):=by omega
  conv=>rhs;rw [e]
  push_cast
  rw [Int.neg_mul]
 ·rw [decide_eq_false hn,if_neg (by decide)]
  have e : n = (n.natAbs : Int):=by omega
  conv=>rhs;rw [e]
  push_cast
  rfl
theorem compare_scaled (a b : Int) (k : Nat) : compare (a * 2 ^ k) (b * 2 ^ k) = compare a b:=by
 have hp : (0 : Int) < 2 ^ k:=Int.pow_pos (by decide)
 rcases Int.lt_trichotomy a b with h | h | h
 ·rw [(Int.compare_eq_lt).2 h,(Int.compare_eq_lt).2 (Int.mul_lt_mul_of_pos_right h hp)]
 ·rw [h,(Int.compare_eq_eq).2 rfl,(Int.compare_eq_eq).2 rfl]
 ·rw [(Int.compare_eq_gt).2 h,(Int.compare_eq_gt).2 (Int.mul_lt_mul_of_pos_right h hp)]
theorem order_bits {a b : Int} (ha : a.natAbs < 9007199254740992) (hb : b.natAbs < 9007199254740992) : Ieee.double.order (bitsI a) (bitsI b) = some (compare a b):=by
 unfold Ieee.Format.order
 have hz : ∀ k,Ieee.signed false 0 k = 0:=fun k=>by simp [Ieee.signed]
 by_cases h0 : a = 0
 ·by_cases h1 : b = 0
  ·subst h0 h1;decide
  ·subst h0
   rw [bits_zero,read_zero,read_bits h1 hb]
   have hl:=log_le (m:=b.natAbs) (by omega) hb
   simp only [Ieee.Datum.order]
   rw [hz,signed_scaled h1 hb (by omega)]
   have:=compare_scaled 0 b (-(min (-1074) ((b.natAbs.log2 : Int) - 52))).toNat
   rw [Int.zero_mul] at this
   rw [this]
 ·by_cases h1 : b = 0
  ·subst h1
   rw [bits_zero,read_zero,read_bits h0 ha]
   simp only [Ieee.Datum.order]
   rw [hz,signed_scaled h0 ha (by omega)]
   have:=compare_scaled a 0 (-(min ((a.natAbs.log2 : Int) - 52) (-1074))).toNat
   rw [Int.zero_mul] at this
   rw [this]
  ·rw [read_bits h0 ha,read_bits h1 hb]
   simp only [Ieee.Datum.order]
   rw [signed_scaled h0 ha (by omega),signed_scaled h1 hb (by omega),compare_scaled]
theorem full_log {m : Nat} (hm : 0 < m) (h : m < 9007199254740992) : (fullM m).log2 = 52:=by
 obtain ⟨b1,b2⟩:=full_bounds hm h
 have h1 : (fullM m).log2 < 53:=(Nat.log2_lt (by omega)).2 (by simpa using b2)
 have h2 : 52 ≤ (fullM m).log2:=(Nat.le_log2 (by omega)).2 (by simpa using b1)
 omega
theorem integral_bits {n : Int} (h0 : n ≠ 0) (h : n.natAbs < 9007199254740992) : (Ieee.double.read (bitsI n)).integral .zero = .number (decide (n < 0)) n.natAbs 0:=by
 have hm : 0 < n.natAbs:=by omega
 have hl:=log_le hm h
 rw [read_bits h0 h]
 unfold Ieee.Datum.integral Ieee.Toward.cut
 have e1 : ((n.natAbs.log2 : Int) - 52).toNat = 0:=by omega
 have e2 : (-((n.natAbs.log2 : Int) - 52)).toNat = 52 - n.natAbs.log2:=by omega
 simp only [e1,e2,Nat.shiftLeft_zero,full_log hm h]
 have e3 : min (52 - n.natAbs.log2) (52 + 2) = 52 - n.natAbs.log2:=by omega
 rw [e3,Nat.shiftLeft_eq,Nat.one_mul]
 have e4 : fullM n.natAbs / 2 ^ (52 - n.natAbs.log2) = n.natAbs:=by
  unfold fullM
  exact Nat.mul_div_cancel _ (Nat.pow_pos (by decide))
 rw [e4]
 simp
theorem toInt_bits {n : Int} (h : n.natAbs < 9007199254740992) : (Ieee.double.read (bitsI n)).toInt .zero = some n:=by
 by_cases h0 : n = 0
 ·subst h0;decide
 ·unfold Ieee.Datum.toInt
  rw [integral_bits h0 h]
  simp only [Ieee.signed,Nat.shiftLeft_zero]
  by_cases hn : n < 0
  ·rw [decide_eq_true hn,if_pos rfl];congr 1;omega
  ·rw [decide_eq_false hn,if_neg (by decide)];congr 1;omega
theorem trunc_bits {n : Int} (h : n.natAbs < 9007199254740992) : Ieee.double.write ((Ieee.double.read (bitsI n)).integral .zero) = bitsI n:=by
 by_cases h0 : n = 0
 ·subst h0;decide
 ·rw [integral_bits h0 h]
  rfl
theorem bits_word {n : Int} (h0 : n ≠ 0) (h : n.natAbs < 9007199254740992) : bitsI n = (if n < 0 then 9223372036854775808 else 0) + ((n.natAbs.log2 + 1022) * 4503599627370496 + fullM n.natAbs):=by
 have hm : 0 < n.natAbs:=by omega
 have hs : Ieee.double.signWeight = 9223372036854775808:=by decide
 have e : bitsI n = Ieee.double.nearest (decide (n < 0)) n.natAbs 0:=rfl
 rw [e,near_form _ hm h]
 unfold Ieee.Format.word
 rw [hs]
 by_cases hn : n < 0
 ·simp [hn]
 ·simp [hn]
theorem bits_low {n : Int} (h0 : n ≠ 0) (h : n.natAbs < 9007199254740992) : (n.natAbs.log2 + 1022) * 4503599627370496 + fullM n.natAbs < 9223372036854775808:=by
 have hm : 0 < n.natAbs:=by omega
 obtain ⟨b1,b2⟩:=full_bounds hm h
 have:=log_le hm h
 omega
theorem bits_lt {n : Int} (h : n.natAbs < 9007199254740992) : bitsI n < 18446744073709551616:=by
 by_cases h0 : n = 0
 ·subst h0;decide
 ·rw [bits_word h0 h]
  have:=bits_low h0 h
  split <;> omega
theorem abs_bits {n : Int} (h : n.natAbs < 9007199254740992) : bitsI n % 9223372036854775808 = bitsI (n.natAbs : Int):=by
 by_cases h0 : n = 0
 ·subst h0;decide
 ·have hl:=bits_low h0 h
  rw [bits_word h0 h,bits_word (n:=(n.natAbs : Int)) (by omega) (by omega),if_neg (show ¬ ((n.natAbs : Int) < 0) by omega)]
  simp only [Int.natAbs_natCast]
  split <;> omega
theorem sign_bits {n : Int} (h : n.natAbs < 9007199254740992) : decide (9223372036854775808 ≤ bitsI n) = decide (n < 0):=by
 by_cases h0 : n = 0
 ·subst h0;decide
 ·have hl:=bits_low h0 h
  rw [bits_word h0 h]
  by_cases hn : n < 0
  ·rw [if_pos hn,decide_eq_true hn];exact decide_eq_true (by omega)
  ·rw [if_neg hn,decide_eq_false hn];exact decide_eq_false (by omega)
theorem dec_val : ∀ (n u : Nat),u ≤ n → (Lib.decDigits u).all digC = true ∧ valFrom 0 (Lib.decDigits u) = u ∧ Lib.decDigits u ≠ []
 | n,u,hn=>by
  by_cases h : u < 10
  ·rw [dec_small h]
   have e : (UInt8.ofNat (48 + u)).toNat = 48 + u:=by
    rw [UInt8.toNat_ofNat']
    omega
   refine ⟨?_,?_,by simp⟩
   ·simp only [List.all_cons,List.all_nil,Bool.and_true]
    rw [digC_iff,e];omega
   ·show 0 * 10 + ((UInt8.ofNat (48 + u)).toNat - 48) = u
    rw [e];omega
  ·rw [dec_big h]
   cases n with
   | zero=>omega
   | succ n=>
    obtain ⟨h1,h2,h3⟩:=dec_val n (u / 10) (by omega)
    have e : (UInt8.ofNat (48 + u % 10)).toNat = 48 + u % 10:=by
     rw [UInt8.toNat_ofNat']
     omega
    refine ⟨?_,?_,by simp⟩
    ·rw [List.all_append,Bool.and_eq_true]
     refine ⟨h1,?_⟩
     simp only [List.all_cons,List.all_nil,Bool.and_true]
     rw [digC_iff,e];omega
    ·rw [valFrom_snoc,h2,e];omega
theorem parse_okB {M : Nat} (hM : M < 1000000000000000000) (l : List UInt8) : ∀ acc : Nat,l.all digC = true → valFrom acc l ≤ M → Lib.parseUintM M acc l = .ok (valFrom acc l):=by
 induction l with
 | nil=>intro acc _ _;rfl
 | cons c t ih=>
  intro acc h hv
  simp only [List.all_cons,Bool.and_eq_true] at h
  have h1:=(digC_iff c).1 h.1
  have e : valFrom acc (c :: t) = valFrom (acc * 10 + (c.toNat - 48)) t:=rfl
  rw [e] at hv ⊢
  have h2:=valFrom_ge t (acc * 10 + (c.toNat - 48))
  have h3 : acc * 10 + (c.toNat - 48) ≤ M:=Nat.le_trans h2 hv
  unfold Lib.parseUintM
  rw [if_pos h1,if_neg (by omega),if_neg (by omega)]
  exact ih _ h.2 hv
theorem parse32_digits {u : Nat} (h : u ≤ 1000000) : Lib.parseIntB 32 (Lib.decDigits u) = .ok (u : Int):=by
 obtain ⟨h1,h2,h3⟩:=dec_val u u (Nat.le_refl _)
 have hp:=parse_okB (M:=2 ^ 32 - 1) (by decide) (Lib.decDigits u) 0 h1 (by rw [h2];exact Nat.le_trans h (by decide))
 rw [h2] at hp
 cases hd : Lib.decDigits u with
 | nil=>exact absurd hd h3
 | cons c t=>
  rw [hd] at h1 hp
  simp only [List.all_cons,Bool.and_eq_true] at h1
  have hc:=(digC_iff c).1 h1.1
  unfold Lib.parseIntB
  simp only
  rw [if_neg (by omega)]
  unfold Lib.parseUintB
  rw [if_neg (by simp),hp]
  simp only
  have : 2 ^ (32 - 1) = 2147483648:=by decide
  rw [if_neg (by omega),if_neg (by omega),if_neg (by omega)]
theorem parse32_sign {u : Nat} (h : u ≤ 1000000) (c : UInt8) (hc : c.toNat = 43 ∨ c.toNat = 45) : Lib.parseIntB 32 (c :: Lib.decDigits u) = .ok (if c.toNat = 45 then -(u : Int) else u):=by
 obtain ⟨h1,h2,h3⟩:=dec_val u u (Nat.le_refl _)
 have hp:=parse_okB (M:=2 ^ 32 - 1) (by decide) (Lib.decDigits u) 0 h1 (by rw [h2];exact Nat.le_trans h (by decide))
 rw [h2] at hp
 unfold Lib.parseIntB
 simp only
 rw [if_pos hc]
 unfold Lib.parseUintB
 rw [if_neg h3,hp]
 simp only
 have : 2 ^ (32 - 1) = 2147483648:=by decide
 rw [if_neg (by omega),if_neg (by omega)]
theorem parse32_itoa {a : Int} (h : a.natAbs ≤ 1000000) : Lib.parseIntB 32 (Lib.itoa a) = .ok a:=by
 unfold Lib.itoa
 by_cases h0 : a < 0
 ·rw [if_pos h0,parse32_sign h 45 (.inr (by decide)),if_pos (by decide)]
  congr 1
  omega
 ·rw [if_neg h0,parse32_digits (by omega)]
  congr 1
  omega
end Go.Proofs.YtahahafhendgoaaGreatDoor
namespace Go.Proofs.YtahahafhendgoaaGreatDoor
open Go.RowKit
set_option maxRecDepth 100000
def okFrom (last : List UInt8) : List Ava → Bool
 | []=>true
 | a :: t=>avaOk a && ltB last a.type && okFrom a.type t
theorem ok_ne {a : Ava} (h : avaOk a = true) : a.type ≠ []:=by
 unfold avaOk at h
 simp only [Bool.and_eq_true,Bool.or_eq_true,decide_eq_true_eq] at h
 intro e
 have h1:=(type_none a.type).1 (by rw [h.1.1,e])
 rcases h.1.2 with h2 | h2 <;> omega
theorem lt_nil {t : List UInt8} (h : t ≠ []) : ltB [] t = true:=by
 cases t with
 | nil=>exact absurd rfl h
 | cons a t=>rfl
theorem okFrom_all : ∀ (l : List Ava) (last : List UInt8),okFrom last l = (l.all avaOk && risingB l && (match l with | []=>true | a :: _=>ltB last a.type))
 | [],last=>rfl
 | [a],last=>by simp [okFrom,risingB]
 | a :: b :: t,last=>by
  have h:=okFrom_all (b :: t) a.type
  unfold okFrom
  rw [h]
  simp only [List.all_cons,risingB]
  cases avaOk a <;> cases avaOk b <;> cases t.all avaOk <;> cases ltB a.type b.type <;> cases risingB (b :: t) <;> cases ltB last a.type <;> rfl
theorem formedA_ok (l : List Ava) : formedA l = (decide (1 ≤ l.length) && decide (l.length ≤ 3) && okFrom [] l):=by
 rw [okFrom_all]
 unfold formedA
 cases l with
 | nil=>rfl
 | cons a t=>
  simp only [List.all_cons]
  cases h : avaOk a with
  | false=>simp
  | true=>
   rw [lt_nil (ok_ne h)]
   simp [Bool.and_assoc]
theorem normE_zero {n v : List UInt8} (h : (typeB n).2 = 1 ∨ (typeB n).2 = 3) : (normE n v).2 = if (normB (typeB n).2 v).isSome then 0 else 2:=by
 unfold normE normB
 rw [if_neg (by omega),if_neg (by omega)]
 by_cases hv : v = [] ∨ 200 < v.length
 ·rw [if_pos hv,if_pos hv];rfl
 ·rw [if_neg hv,if_neg hv]
  rcases h with h | h
  ·rw [h]
   simp only [normP,textN]
   by_cases ht : joinSp (wordsB (lowerB v)) = [] ∨ (0 : UInt8) ∈ joinSp (wordsB (lowerB v))
   ·have h2 : ¬ (joinSp (wordsB (lowerB v)) ≠ [] ∧ (0 : UInt8) ∉ joinSp (wordsB (lowerB v))):=by
     rintro ⟨h3,h4⟩
     rcases ht with ht | ht
     ·exact h3 ht
     ·exact h4 ht
    simp [h2,ht]
   ·have h2 : joinSp (wordsB (lowerB v)) ≠ [] ∧ (0 : UInt8) ∉ joinSp (wordsB (lowerB v)):=⟨fun e=>ht (.inl e),fun e=>ht (.inr e)⟩
    simp [h2]
  ·rw [h]
   cases hb : intB v <;> simp [normP,hb]
theorem less_lt : ∀ a b : List UInt8,Op.bytesLess a b = ltB a b
 | [],[]=>rfl
 | [],_ :: _=>rfl
 | _ :: _,[]=>rfl
 | a :: s,b :: t=>by
  rw [Op.bytesLess,ltB,less_lt s t]
  by_cases h1 : a.toNat < b.toNat
  ·have : a < b:=h1
   simp [h1,this]
  ·have h2 : ¬ a < b:=h1
   by_cases h3 : b.toNat < a.toNat
   ·have h4 : ¬ a = b:=fun e=>by rw [e] at h3;omega
    simp [h1,h2,h3,h4]
   ·have h4 : a = b:=UInt8.toNat_inj.1 (by omega)
    simp [h4]
theorem leq_no {a b : List UInt8} (h : ltB b a = true) : Op.bytesLess a b = false ∧ (a == b) = false:=by
 refine ⟨by rw [less_lt];exact ltB_asymm _ _ h,?_⟩
 rw [beq_eq_false_iff_ne]
 intro e
 rw [e,ltB_irrefl] at h
 cases h
theorem leq_yes {a b : List UInt8} (h : ltB b a = false) : Op.bytesLess a b = true ∨ (Op.bytesLess a b = false ∧ (a == b) = true):=by
 rw [less_lt]
 cases h2 : ltB a b with
 | true=>exact .inl rfl
 | false=>exact .inr ⟨rfl,by rw [ltB_tri _ _ h2 h];exact beq_self_eq_true _⟩
theorem formed_any {S : Nat → Prop} {A : Option Addr} {n c : Nat} {l : List Ava} {w : World} (hG : Gl w) (h : Row Elem.ava S w A n c l) (hb : ∀ a ∈ l,a.type.length ≤ 4000000) :
 Calls Tryz.prog 91 #[.slice A n c] w fun e w'=>e = .returned (.bool (formedA l)) ∧ Ext w w':=by
 have HG:=hid hG
 have HR:=hid h
 have HB:=hid hb
 have hl:=h.len
 have HF:=hid (formedA_ok l)
 clear hG h hb
 by_cases h0 : n = 0
 ·have HE : Hid (formedA l = false):=by show _ = _;rw [HF.out,← hl,h0];rfl
  have t0 : ((n : Int) == 0) = true:=by rw [h0];rfl
  clear h0 hl
  go_enter Tryz.func91,Tryz.ntmps91
  go_wp2
  go_ret
  exact ⟨by rw [HE.out];rfl,Ext.refl _⟩
 ·have t0 : ((n : Int) == 0) = false:=by rw [beq_eq_false_iff_ne];omega
  by_cases h3 : 3 < n
  ·have HE : Hid (formedA l = false):=by show _ = _;rw [HF.out,← hl,decide_eq_false (show ¬ n ≤ 3 by omega)];simp
   have t3 : 3 < (n : Int):=by omega
   clear h0 hl h3
   go_enter Tryz.func91,Tryz.ntmps91
   go_wp2
   go_ret
   exact ⟨by rw [HE.out];rfl,Ext.refl _⟩
  ·have t3 : decide (3 < (n : Int)) = false:=by rw [decide_eq_false_iff_not];omega
   have HE : Hid (formedA l = okFrom [] l):=by show _ = _;rw [HF.out,← hl,decide_eq_true (show 1 ≤ n by omega),decide_eq_true (show n ≤ 3 by omega)];rfl
   have hn : n ≤ 3:=by omega
   clear h3 HF hl
   go_enter Tryz.func91,Tryz.ntmps91
   go_wp2
   go_loopw [3,20] (fun v i wr=>∃ (j : Nat) (last : List UInt8),j ≤ n ∧ i = .int .i64 j ∧ v = .string (str last) ∧ Hid (okFrom last (l.drop j) = okFrom [] l) ∧ Hid (Ext w wr)) (fun _ i _=>n - (intOf i).toNat)
   case atStart=>exact ⟨0,[],by omega,rfl,rfl,rfl,Ext.refl _⟩
   case round=>
    obtain ⟨j,last,hj,rfl,rfl,HO,HX⟩:=hrel
    by_cases hlt : j < n
    ·obtain ⟨b,o,x,rfl,hx,e1,e2⟩:=ava_at (HR.out.ext HX.out) hlt
     have hd : Hid (l.drop j = x :: l.drop (j + 1)):=by
      show _ = _
      obtain ⟨h1,h2⟩:=List.getElem?_eq_some_iff.1 hx
      rw [List.drop_eq_getElem_cons h1,h2]
     have hxs:=hid (HB.out x (List.mem_of_getElem? hx))
     clear hx
     have HT : ∀ w,Calls Tryz.prog 46 #[.string (str x.type)] w (TypeSays w x.type):=fun w=>by
      have:=type_any (str x.type) w (by have:=hxs.out;rw [str_size];simp only [maxLen];omega)
      rwa [bys_str] at this
     have HAV : Hid (avaOk x = (decide ((typeB x.type).1 = x.type) && (decide ((typeB x.type).2 = 1) || decide ((typeB x.type).2 = 3)) && (normB (typeB x.type).2 x.val).isSome)):=rfl
     have HNE : Hid ((typeB x.type).2 = 1 ∨ (typeB x.type).2 = 3 → (normE x.type x.val).2 = if (normB (typeB x.type).2 x.val).isSome then 0 else 2):=normE_zero
     have HNA : Hid ((typeB x.type).2 = 1 ∨ (typeB x.type).2 = 3 → ∀ w,Gl w → Calls Tryz.prog 81 #[.string (str x.type),.string (str x.val)] w (NormSays w x.type x.val)):=fun h w hG=>by
      have:=normal_any (str x.type) (str x.val) w hG (by have:=hxs.out;rw [str_size];exact this) (by rw [bys_str];omega)
      rwa [bys_str,bys_str] at this
     have HST : Hid (okFrom last (x :: l.drop (j + 1)) = (avaOk x && ltB last x.type && okFrom x.type (l.drop (j + 1)))):=rfl
     rw [← hd.out] at HST
     unfold TypeSays at HT
     obtain ⟨p,hp⟩ : ∃ p,p = typeB x.type:=⟨_,rfl⟩
     rw [← hp] at HT HAV HNE HNA
     clear hp
     obtain ⟨t,k⟩:=p
     simp only at HT HAV HNE HNA
     by_cases ht : t = x.type
     ·subst ht
      by_cases hk : k = 1 ∨ k = 3
      ·have HNC:=HNA.out hk
       unfold NormSays at HNC
       have HE1 : Hid ((normE x.type x.val).2 = if (normB k x.val).isSome then 0 else 2):=HNE.out hk
       generalize normE x.type x.val = q at *
       obtain ⟨nv,ne⟩:=q
       simp only at HNC HE1
       have hk2 : ((k : Int) != 1) = false ∨ (((k : Int) != 1) = true ∧ ((k : Int) != 3) = false):=by
        rcases hk with h | h
        ·left;rw [h];rfl
        ·right;rw [h];exact ⟨rfl,rfl⟩
       clear HNA HNE
       cases hlt2 : ltB last x.type with
       | false=>
        have HF : Hid (okFrom last (l.drop j) = false):=by show _ = _;rw [HST.out,hlt2,Bool.and_false,Bool.false_and]
        rw [HO.out] at HF
        rcases leq_yes hlt2 with q1 | ⟨q1,q2⟩
        all_goals
         clear hlt2
         rcases hk2 with k1 | ⟨k1,k2⟩
         all_goals
          go_wp2_with (first
           | (go_at_call 46;(with_reducible refine (HT _).mono ?_);rintro e w1 ⟨rfl,hx1⟩;have HX1:=hid hx1;have p0:=cell_later (box_a wr #[.string (str x.type),.string (str x.val)] 144 0) _ hx1;have p1:=cell_later (box_a wr #[.string (str x.type),.string (str x.val)] 144 1) _ hx1;clear hx1)
           )
          go_ret
          exact ⟨by rw [HE.out,HF.out];rfl,HX.out.trans ((Ext.alloc _ _).trans HX1.out)⟩
       | true=>
        obtain ⟨q1,q2⟩:=leq_no hlt2
        cases hnb : (normB k x.val).isSome with
        | false=>
         have HN2 : Hid (ne = 2):=by show _ = _;rw [HE1.out,hnb];rfl
         have HF : Hid (okFrom last (l.drop j) = false):=by show _ = _;rw [HST.out,HAV.out,hnb,Bool.and_false,Bool.false_and,Bool.false_and]
         rw [HO.out] at HF
         have e3 : (ne != 0) = true:=by rw [HN2.out];rfl
         clear hlt2 hnb HAV HST
         rcases hk2 with k1 | ⟨k1,k2⟩
         all_goals
          go_wp2_with (first
           | (go_at_call 46;(with_reducible refine (HT _).mono ?_);rintro e w1 ⟨rfl,hx1⟩;have HX1:=hid hx1;have p0:=cell_later (box_a wr #[.string (str x.type),.string (str x.val)] 144 0) _ hx1;have p1:=cell_later (box_a wr #[.string (str x.type),.string (str x.val)] 144 1) _ hx1;clear hx1)
           | (go_at_call 81;(with_reducible refine (HNC _ (HG.out.ext (HX.out.trans ((Ext.alloc _ _).trans HX1.out)))).mono ?_);rintro e w2 ⟨rfl,hx2⟩;have HX2:=hid hx2;clear hx2)
           )
          go_ret
          exact ⟨by rw [HE.out,HF.out];rfl,HX.out.trans ((Ext.alloc _ _).trans (HX1.out.trans HX2.out))⟩
        | true=>
         have e3 : (ne != 0) = false:=by rw [HE1.out,hnb];rfl
         have HF : Hid (okFrom x.type (l.drop (j + 1)) = okFrom [] l):=by
          show _ = _
          rw [← HO.out,HST.out,HAV.out,hnb,hlt2,decide_eq_true rfl]
          rcases hk with h | h <;> simp [h]
         clear hlt2 hnb HAV HST hk
         rcases hk2 with k1 | ⟨k1,k2⟩
         all_goals
          go_wp2_with (first
           | (go_at_call 46;(with_reducible refine (HT _).mono ?_);rintro e w1 ⟨rfl,hx1⟩;have HX1:=hid hx1;have p0:=cell_later (box_a wr #[.string (str x.type),.string (str x.val)] 144 0) _ hx1;have p1:=cell_later (box_a wr #[.string (str x.type),.string (str x.val)] 144 1) _ hx1;clear hx1)
           | (go_at_call 81;(with_reducible refine (HNC _ (HG.out.ext (HX.out.trans ((Ext.alloc _ _).trans HX1.out)))).mono ?_);rintro e w2 ⟨rfl,hx2⟩;have HX2:=hid hx2;clear hx2)
           )
          exact ⟨⟨j + 1,x.type,by omega,by go_num,rfl,HF,HX.out.trans ((Ext.alloc _ _).trans (HX1.out.trans HX2.out))⟩,by simp [intOf];omega⟩
      ·have hk1 : ((k : Int) != 1) = true:=by rw [bne_iff_ne];omega
       have hk2 : ((k : Int) != 3) = true:=by rw [bne_iff_ne];omega
       have HF : Hid (okFrom last (l.drop j) = false):=by
        show _ = _
        rw [HST.out,HAV.out,decide_eq_false (show ¬ k = 1 by omega),decide_eq_false (show ¬ k = 3 by omega)]
        simp
       rw [HO.out] at HF
       clear hk HNA HNE HAV HST
       go_wp2_with (first
        | (go_at_call 46;(with_reducible refine (HT _).mono ?_);rintro e w1 ⟨rfl,hx1⟩;have HX1:=hid hx1;have p0:=cell_later (box_a wr #[.string (str x.type),.string (str x.val)] 144 0) _ hx1;have p1:=cell_later (box_a wr #[.string (str x.type),.string (str x.val)] 144 1) _ hx1;clear hx1)
        )
       go_ret
       exact ⟨by rw [HE.out,HF.out];rfl,HX.out.trans ((Ext.alloc _ _).trans HX1.out)⟩
     ·have te : (t == x.type) = false:=by rw [beq_eq_false_iff_ne];exact ht
      have HF : Hid (okFrom last (l.drop j) = false):=by show _ = _;rw [HST.out,HAV.out,decide_eq_false ht];simp
      rw [HO.out] at HF
      clear ht HNA HNE HAV HST
      go_wp2_with (first
       | (go_at_call 46;(with_reducible refine (HT _).mono ?_);rintro e w1 ⟨rfl,hx1⟩;have HX1:=hid hx1;have p0:=cell_later (box_a wr #[.string (str x.type),.string (str x.val)] 144 0) _ hx1;have p1:=cell_later (box_a wr #[.string (str x.type),.string (str x.val)] 144 1) _ hx1;clear hx1)
       )
      go_ret
      exact ⟨by rw [HE.out,HF.out];rfl,HX.out.trans ((Ext.alloc _ _).trans HX1.out)⟩
    ·obtain rfl : j = n:=by omega
     have HF : Hid (okFrom [] l = true):=by show _ = _;rw [← HO.out,List.drop_of_length_le (Nat.le_of_eq HR.out.len.symm)];rfl
     go_wp2
     go_ret
     exact ⟨by rw [HE.out,HF.out];rfl,HX.out⟩
def escI (z : Int) (b0 bL sp : Bool) : Bool:=((z == 32) && (b0 || bL)) || ((z == 35) && b0) || sp
def chunkW (c : UInt8) (b0 bL : Bool) : List UInt8:=
 if escI (c.toNat : Int) b0 bL (specB c) = true then [92,c] else if (c.toNat : Int) < 32 ∨ 126 < (c.toNat : Int) then [92,digitB (c.toNat / 16),digitB (c.toNat % 16)] else [c]
theorem writeF_cons (b0 : Bool) (c : UInt8) (t : List UInt8) : writeF b0 (c :: t) = chunkW c b0 t.isEmpty ++ writeF false t:=by
 have e32 : ((c.toNat : Int) == 32) = (c == 32):=by
  by_cases h : c = 32
  ·rw [show ((c.toNat : Int) == 32) = true from byte_is (k:=32) (by decide) h,h];rfl
  ·rw [show ((c.toNat : Int) == 32) = false from byte_isnt (k:=32) h,beq_eq_false_iff_ne.2 h]
 have e35 : ((c.toNat : Int) == 35) = (c == 35):=by
  by_cases h : c = 35
  ·rw [show ((c.toNat : Int) == 35) = true from byte_is (k:=35) (by decide) h,h];rfl
  ·rw [show ((c.toNat : Int) == 35) = false from byte_isnt (k:=35) h,beq_eq_false_iff_ne.2 h]
 have eq : ((c.toNat : Int) < 32 ∨ 126 < (c.toNat : Int)) ↔ (c.toNat < 32 ∨ 126 < c.toNat):=by omega
 unfold chunkW escI
 rw [e32,e35]
 simp only [eq]
 rfl
theorem hexd_at {k : Nat} (h : k < 16) : (bys ⟨#[48,49,50,51,52,53,54,55,56,57,97,98,99,100,101,102]⟩)[k]? = some (digitB k):=by
 have hall : ∀ k < 16,(bys ⟨#[48,49,50,51,52,53,54,55,56,57,97,98,99,100,101,102]⟩)[k]? = some (digitB k):=by decide
 exact hall k h
theorem and_low (x : UInt8) : bits BinOp.and IntKind.u8 (x.toNat : Int) 15 = ((x.toNat % 16 : Nat) : Int):=by
 obtain ⟨n,rfl⟩ : ∃ n : Fin 256,x = UInt8.ofFin n:=⟨x.toFin,rfl⟩
 revert n
 decide +kernel
theorem sl_lit (w : World) (xs : List UInt8) (n : Nat) (hn : n = xs.length) (hm : n ≤ maxLen) : Sl (w.alloc (.cells (xs.map bv).toArray 5)) (some ⟨w.heap.size,0,none⟩) n n xs:=Sl.of_own (own_new w xs n hn hm 0 (Nat.zero_le _))
theorem sl_esc (w : World) (x : UInt8) : Sl (w.alloc (.cells #[.int .u8 92,.int .u8 (x.toNat : Int)] 5)) (some ⟨w.heap.size,0,none⟩) 2 2 [92,x]:=sl_lit w [92,x] 2 rfl (by simp [maxLen])
theorem lit_at3 {w : World} {o : Oper} {a : Act} {K : Act → World → Prop} {Q : Exit → Act → World → Prop} (x y : Operand) (ho : o.op = .buildSlice 126 3 #[(0,.const (.int .u8 92)),(1,x),(2,y)]) (p q : UInt8) (hx : a.eval x = .int .u8 (p.toNat : Int)) (hy : a.eval y = .int .u8 (q.toNat : Int))
 (h : ∀ w',Ext w w' → Sl w' (some ⟨w.heap.size,0,none⟩) 3 3 [92,p,q] → K (a.put o.dst (.slice (some ⟨w.heap.size,0,none⟩) 3 3)) w') : o.wp Tryz.prog a w K Q:=by
 have hr : (execOp a.eval o).run Tryz.prog w = .ok (.value (.slice (some ⟨w.heap.size,0,none⟩) 3 3)) (w.alloc (.cells #[.int .u8 92,.int .u8 (p.toNat : Int),.int .u8 (q.toNat : Int)] 5)):=by
  unfold execOp
  simp only [ho,List.map_toArray,List.map_cons,List.map_nil,hx,hy]
  kernel_rfl
 unfold Oper.wp
 rw [hr]
 exact h _ (Ext.alloc _ _) (sl_lit w [92,p,q] 3 rfl (by simp [maxLen]))
theorem writeall_kept {B b : Nat} {xs : List UInt8} (s : ByteArray) (w : World) (hI : IsB B b xs w) (hs : s.size ≤ 4000000) (hl : xs.length ≤ 100000000000000) :
 Calls Tryz.prog 94 #[.pointer (some ⟨b,0,none⟩),.string s] w fun e w'=>e = .returned (.tuple #[]) ∧ IsB B b (xs ++ writeF true (bys s)) w' ∧ Kept B b w w':=by
 have Hs:=hid hs
 have HI0:=hid hI
 clear hI
 go_enter Tryz.func94,Tryz.ntmps94
 go_wp2
 go_loopw [9] (fun i wr=>∃ (j : Nat) (acc : List UInt8),j ≤ s.size ∧ i = .int .i64 j ∧ acc.length ≤ 3 * j ∧ Hid (IsB B b (xs ++ acc) wr ∧ Kept B b w wr) ∧ Hid (acc ++ writeF (decide (j = 0)) ((bys s).drop j) = writeF true (bys s))) (fun i _=>s.size - (intOf i).toNat)
 case atStart=>exact ⟨0,[],by omega,rfl,by simp,⟨by rw [List.append_nil];exact HI0,Kept.refl _ _ _⟩,rfl⟩
 case round=>
  obtain ⟨j,acc,hj,rfl,hacc,HI,HR⟩:=hrel
  by_cases hlt : j < s.size
  ·obtain ⟨x,hx⟩:=at_some hlt
   have gx:=bys_get hx hlt
   have hd:=drop_at hx
   have hx1 : (x.toNat : Int) < 256:=by have:=x.toNat_lt;omega
   have hx0 : 0 ≤ (x.toNat : Int):=by omega
   have hemp : ((bys s).drop (j + 1)).isEmpty = ((j : Int) == (s.size : Int) - 1):=by
    rw [Bool.eq_iff_iff,List.isEmpty_iff,beq_iff_eq,List.drop_eq_nil_iff,bys_len]
    omega
   have h0 : decide (j = 0) = ((j : Int) == 0):=by rw [Bool.eq_iff_iff,beq_iff_eq,decide_eq_true_eq];omega
   have hst : acc ++ chunkW x ((j : Int) == 0) ((j : Int) == (s.size : Int) - 1) ++ writeF false ((bys s).drop (j + 1)) = writeF true (bys s):=by
    rw [← HR.out,hd,writeF_cons,hemp,h0,List.append_assoc]
   have hj1 : decide (j + 1 = 0) = false:=rfl
   rw [← hj1] at hst
   have HE : Hid (escI (x.toNat : Int) ((j : Int) == 0) ((j : Int) == (s.size : Int) - 1) (specB x) = true → (acc ++ [92,x]) ++ writeF (decide (j + 1 = 0)) ((bys s).drop (j + 1)) = writeF true (bys s)):=by
    intro h;rw [← hst];unfold chunkW;rw [if_pos h]
   have HP : Hid (escI (x.toNat : Int) ((j : Int) == 0) ((j : Int) == (s.size : Int) - 1) (specB x) = false → ¬ ((x.toNat : Int) < 32 ∨ 126 < (x.toNat : Int)) → (acc ++ [x]) ++ writeF (decide (j + 1 = 0)) ((bys s).drop (j + 1)) = writeF true (bys s)):=by
    intro h k;rw [← hst];unfold chunkW;rw [if_neg (by rw [h];decide),if_neg k]
   have HX : Hid (escI (x.toNat : Int) ((j : Int) == 0) ((j : Int) == (s.size : Int) - 1) (specB x) = false → ((x.toNat : Int) < 32 ∨ 126 < (x.toNat : Int)) → (acc ++ [92,digitB (x.toNat / 16),digitB (x.toNat % 16)]) ++ writeF (decide (j + 1 = 0)) ((bys s).drop (j + 1)) = writeF true (bys s)):=by
    intro h k;rw [← hst];unfold chunkW;rw [if_neg (by rw [h];decide),if_pos k]
   clear hx hd hemp h0 hst hj1
   cases hsp : specB x with
   | true=>
    have HM:=hid ((mem_spec x).1 hsp)
    have HE' : Hid ((acc ++ [92,x]) ++ writeF (decide (j + 1 = 0)) ((bys s).drop (j + 1)) = writeF true (bys s)):=HE.out (by unfold escI;rw [hsp];simp)
    clear hsp HE HP HX
    generalize hq32 : ((x.toNat : Int) == 32) = b32 at *
    generalize hq35 : ((x.toNat : Int) == 35) = b35 at *
    generalize hq0 : ((j : Int) == 0) = b0 at *
    generalize hqL : ((j : Int) == (s.size : Int) - 1) = bL at *
    cases b32 <;> cases b35 <;> cases b0 <;> cases bL
    all_goals
     go_wp2_with (first
      | (go_at_call 125;(with_reducible refine (indexbyte_yes _ _ x (u8_back _) _ HM.out).mono ?_);rintro e w4 ⟨⟨i,rfl⟩,rfl⟩;have hi0 : 0 ≤ (i : Int):=by omega)
      | (go_at_call 126;(with_reducible refine (write_kept _ 2 2 [92,x] (HI.out.1.ext (Ext.alloc _ _)) (sl_esc _ x) (fun a ha=>by injection ha with ha;subst ha;have:=HI.out.1.lt;show _ ≠ _;simp;omega) (by simp;omega)).mono ?_);rintro e w5 ⟨rfl,hi5,hx5⟩;have HI5:=hid hi5;have HX5:=hid hx5;clear hi5 hx5))
     exact ⟨⟨j + 1,acc ++ [92,x],by omega,by go_num,by simp;omega,⟨by rw [← List.append_assoc];exact HI5.out,Kept.trans HI.out.2 (Kept.trans (kept_ext (Ext.alloc _ _) HI.out.1.le) HX5.out)⟩,HE'⟩,by simp [intOf];omega⟩
   | false=>
    have HM : Hid (x ∉ ([44,43,34,92,60,62,59] : List UInt8)):=fun h=>by have:=(mem_spec x).2 h;rw [hsp] at this;cases this
    rw [hsp] at HE HP HX
    clear hsp
    generalize hq32 : ((x.toNat : Int) == 32) = b32 at *
    generalize hq35 : ((x.toNat : Int) == 35) = b35 at *
    generalize hq0 : ((j : Int) == 0) = b0 at *
    generalize hqL : ((j : Int) == (s.size : Int) - 1) = bL at *
    have hE2 : ∀ b,escI (x.toNat : Int) b0 bL false = b ↔ ((b32 && (b0 || bL)) || (b35 && b0)) = b:=by intro b;unfold escI;rw [hq32,hq35,Bool.or_false]
    rw [hE2] at HE HP HX
    clear hE2
    have hu : (((x.toNat : Int) < 32 ∨ 126 < (x.toNat : Int)) ∧ ((x.toNat : Int) < 32 ∨ (¬ (x.toNat : Int) < 32 ∧ 126 < (x.toNat : Int)))) ∨ (¬ ((x.toNat : Int) < 32 ∨ 126 < (x.toNat : Int)) ∧ ¬ (x.toNat : Int) < 32 ∧ ¬ 126 < (x.toNat : Int)):=by omega
    cases b32 <;> cases b35 <;> cases b0 <;> cases bL
    all_goals first
     | (have HE':=hid (HE.out rfl)
        clear HE HP HX hu
        go_wp2_with (first
         | (go_at_call 126;(with_reducible refine (write_kept _ 2 2 [92,x] (HI.out.1.ext (Ext.alloc _ _)) (sl_esc _ x) (fun a ha=>by injection ha with ha;subst ha;have:=HI.out.1.lt;show _ ≠ _;simp;omega) (by simp;omega)).mono ?_);rintro e w5 ⟨rfl,hi5,hx5⟩;have HI5:=hid hi5;have HX5:=hid hx5;clear hi5 hx5))
        exact ⟨⟨j + 1,acc ++ [92,x],by omega,by go_num,by simp;omega,⟨by rw [← List.append_assoc];exact HI5.out,Kept.trans HI.out.2 (Kept.trans (kept_ext (Ext.alloc _ _) HI.out.1.le) HX5.out)⟩,HE'⟩,by simp [intOf];omega⟩)
     | (rcases hu with ⟨hu,hv⟩ | ⟨hu,hu1,hu2⟩
        ·have HX':=hid (HX.out rfl hu)
         clear HE HP HX hu
         obtain ⟨k1,hk1⟩ : ∃ k,k = x.toNat / 16:=⟨_,rfl⟩
         obtain ⟨k2,hk2⟩ : ∃ k,k = x.toNat % 16:=⟨_,rfl⟩
         have hl1 : k1 < 16:=by omega
         have hl2 : k2 < 16:=by omega
         have g1:=bys_get (hexd_at hl1) hl1
         have g2:=bys_get (hexd_at hl2) hl2
         have hsh : (x.toNat : Int) / 16 = (k1 : Int):=by omega
         have hand:=and_low x
         rw [← hk1,← hk2] at HX'
         rw [← hk2] at hand
         have hk1' : (k1 : Int) < 16:=by omega
         have hk2' : (k2 : Int) < 16:=by omega
         generalize digitB k1 = d1 at *
         generalize digitB k2 = d2 at *
         clear hk1 hk2
         rcases hv with hv | ⟨hv,hv2⟩
         all_goals
          go_wp2_with (first
           | (go_at_call 125;(with_reducible refine (indexbyte_no _ _ x (u8_back _) _ HM.out).mono ?_);rintro e w4 ⟨rfl,rfl⟩))
          refine wp_region_planB B (.read 0 (.read 1 (.read 2 (.read 3 (.read 4 (.read 5 (.read 6 (.main 7 (.main 8 .done))))))))) (by kernel_rfl) (by kernel_rfl) ?_
          intro wD hxD
          have XB : Hid (Below B wD wD):=Below.refl _ _
          have HID:=hid (HI.out.1.ext hxD)
          have HXD:=hid (Kept.trans HI.out.2 (kept_ext hxD HI.out.1.le))
          repeat' (first
           | ((first | refine walksB_move rfl rfl ?_ | refine walksB_assign rfl rfl ?_ | refine walksB_skip rfl rfl ?_);simp only [Act.put,Act.eval,evs])
           | (refine walksB_unwanted rfl rfl ?_;simp only [Act.put,evp])
           | (refine walksB_read (v:=?_) rfl rfl (fun w' hE=>?_) ?_;rotate_left 1;(· ((try (have hEx:=Below.trans (Hid.out XB) hE));go_simp;(try go_bits);with_reducible rfl));simp only [Act.put,evp])
           | (refine walksB_main rfl rfl (fun K hK=>?_);(first | (refine lit_at3 _ _ rfl d1 d2 rfl rfl ?_;intro w8 hx8 hs8;have hx8':=Below.mono hx8 HID.out.le;have HIE:=hid (HID.out.ext hx8);have HK8 : Hid (Kept B b wD w8):=kept_ext hx8 HID.out.le;have HS8:=hid hs8;have HA8 : Hid (∀ a,some (⟨wD.heap.size,0,none⟩ : Addr) = some a → a.block ≠ b):=(fun a ha=>by injection ha with ha;subst ha;have:=HID.out.lt;show _ ≠ _;simp;omega);clear hx8 hs8;have XB':=hid (Below.trans (Hid.out XB) (hx8'));clear XB;have XB:=XB';clear XB'));refine hK _ _ (by first | assumption | exact Below.refl _ _ | exact Below.mono (Ext.alloc _ _) (Hid.out HSW) | exact Below.setCell (p:=⟨_,_,_⟩) (Below.refl _ _) (Nat.le_refl _) _) ?_;clear hK K;try simp only [Act.put,evp])
           | (refine walksB_alt ?_ ?_)
           | (refine walksB_main rfl rfl (fun K hK=>?_);go_wp2_with ((go_at_call 126;(with_reducible refine (write_kept _ 3 3 [92,d1,d2] HIE.out HS8.out HA8.out (by simp;omega)).mono ?_);rintro e w9 ⟨rfl,hi9,hk9⟩;have HI9:=hid hi9;have HK9:=hid (Kept.trans HK8.out hk9);have hx9:=hk9.below;clear hi9 hk9;have XB':=hid (Below.trans (Hid.out XB) (hx9));clear XB;have XB:=XB';clear XB'));refine hK _ _ (by first | assumption | exact Below.refl _ _ | exact Below.mono (Ext.alloc _ _) (Hid.out HSW) | exact Below.setCell (p:=⟨_,_,_⟩) (Below.refl _ _) (Nat.le_refl _) _) ?_;clear hK K;try simp only [Act.put,evp]))
          refine walksB_done ?_
          go_wp2
          exact ⟨⟨j + 1,acc ++ [92,d1,d2],by omega,by go_num,by simp;omega,⟨by rw [← List.append_assoc];exact HI9.out,Kept.trans HXD.out HK9.out⟩,HX'⟩,by simp [intOf];omega⟩
        ·have HP':=hid (HP.out rfl hu)
         clear HE HP HX hu
         go_wp2_with (first
          | (go_at_call 125;(with_reducible refine (indexbyte_no _ _ x (u8_back _) _ HM.out).mono ?_);rintro e w4 ⟨rfl,rfl⟩)
          | (go_at_call 93;(with_reducible refine (writeByte_kept x HI.out.1 (by simp;omega)).mono ?_);rintro e w5 ⟨rfl,hi5,hx5⟩;have HI5:=hid hi5;have HX5:=hid hx5;clear hi5 hx5))
         exact ⟨⟨j + 1,acc ++ [x],by omega,by go_num,by simp;omega,⟨by rw [← List.append_assoc];exact HI5.out,Kept.trans HI.out.2 HX5.out⟩,HP'⟩,by simp [intOf];omega⟩)
  ·obtain rfl : j = s.size:=by omega
   have HF : Hid (writeF true (bys s) = acc):=by show _ = _;rw [← HR.out,drop_none (Nat.le_refl _)];simp [writeF]
   go_wp2
   go_end0
   exact ⟨rfl,by rw [HF.out];exact HI.out.1,HI.out.2⟩
theorem lit_wp3 {w : World} {o : Oper} {a : Act} {K : Act → World → Prop} {Q : Exit → Act → World → Prop} (x y : Operand) (ho : o.op = .buildSlice 126 3 #[(0,.const (.int .u8 92)),(1,x),(2,y)]) (p q : UInt8) (hx : a.eval x = .int .u8 (p.toNat : Int)) (hy : a.eval y = .int .u8 (q.toNat : Int))
 (h : ∀ A w',Ext w w' → Sl w' A 3 3 [92,p,q] → K (a.put o.dst (.slice A 3 3)) w') : o.wp Tryz.prog a w K Q:=by
 have hr : (execOp a.eval o).run Tryz.prog w = .ok (.value (.slice (some ⟨w.heap.size,0,none⟩) 3 3)) (w.alloc (.cells #[.int .u8 92,.int .u8 (p.toNat : Int),.int .u8 (q.toNat : Int)] 5)):=by
  unfold execOp
  simp only [ho,List.map_toArray,List.map_cons,List.map_nil,hx,hy]
  kernel_rfl
 unfold Oper.wp
 rw [hr]
 exact h _ _ (Ext.alloc _ _) (sl_lit w [92,p,q] 3 rfl (by simp [maxLen]))
theorem rvalue_any (s : ByteArray) (w : World) (hs : s.size ≤ 4000000) : Calls Tryz.prog 74 #[.string s] w fun e w'=>e = .returned (.string (str (writeF true (bys s)))) ∧ Ext w w':=by
 have Hs:=hid hs
 go_enter Tryz.func74,Tryz.ntmps74
 go_wp2
 go_loopw [3,4] (fun v i wr=>∃ (j : Nat) (acc : List UInt8),j ≤ s.size ∧ i = .int .i64 j ∧ acc.length ≤ 3 * j ∧ Hid (GrowB w wr v acc) ∧ Hid (acc ++ writeF (decide (j = 0)) ((bys s).drop j) = writeF true (bys s))) (fun _ i _=>s.size - (intOf i).toNat)
 case atStart=>exact ⟨0,[],by omega,rfl,by simp,GrowB.nil (Ext.refl _),rfl⟩
 case round=>
  obtain ⟨j,acc,hj,rfl,hacc,HG,HR⟩:=hrel
  by_cases hlt : j < s.size
  ·obtain ⟨x,hx⟩:=at_some hlt
   have gx:=bys_get hx hlt
   have hd:=drop_at hx
   have hx1 : (x.toNat : Int) < 256:=by have:=x.toNat_lt;omega
   have hx0 : 0 ≤ (x.toNat : Int):=by omega
   have hemp : ((bys s).drop (j + 1)).isEmpty = ((j : Int) == (s.size : Int) - 1):=by
    rw [Bool.eq_iff_iff,List.isEmpty_iff,beq_iff_eq,List.drop_eq_nil_iff,bys_len]
    omega
   have h0 : decide (j = 0) = ((j : Int) == 0):=by rw [Bool.eq_iff_iff,beq_iff_eq,decide_eq_true_eq];omega
   have hst : acc ++ chunkW x ((j : Int) == 0) ((j : Int) == (s.size : Int) - 1) ++ writeF false ((bys s).drop (j + 1)) = writeF true (bys s):=by
    rw [← HR.out,hd,writeF_cons,hemp,h0,List.append_assoc]
   have hj1 : decide (j + 1 = 0) = false:=rfl
   rw [← hj1] at hst
   have HE : Hid (escI (x.toNat : Int) ((j : Int) == 0) ((j : Int) == (s.size : Int) - 1) (specB x) = true → (acc ++ [92,x]) ++ writeF (decide (j + 1 = 0)) ((bys s).drop (j + 1)) = writeF true (bys s)):=by
    intro h;rw [← hst];unfold chunkW;rw [if_pos h]
   have HP : Hid (escI (x.toNat : Int) ((j : Int) == 0) ((j : Int) == (s.size : Int) - 1) (specB x) = false → ¬ ((x.toNat : Int) < 32 ∨ 126 < (x.toNat : Int)) → (acc ++ [x]) ++ writeF (decide (j + 1 = 0)) ((bys s).drop (j + 1)) = writeF true (bys s)):=by
    intro h k;rw [← hst];unfold chunkW;rw [if_neg (by rw [h];decide),if_neg k]
   have HX : Hid (escI (x.toNat : Int) ((j : Int) == 0) ((j : Int) == (s.size : Int) - 1) (specB x) = false → ((x.toNat : Int) < 32 ∨ 126 < (x.toNat : Int)) → (acc ++ [92,digitB (x.toNat / 16),digitB (x.toNat % 16)]) ++ writeF (decide (j + 1 = 0)) ((bys s).drop (j + 1)) = writeF true (bys s)):=by
    intro h k;rw [← hst];unfold chunkW;rw [if_neg (by rw [h];decide),if_pos k]
   clear hx hd hemp h0 hst hj1
   cases hsp : specB x with
   | true=>
    have HSP:=hid hsp
    have HE' : Hid ((acc ++ [92,x]) ++ writeF (decide (j + 1 = 0)) ((bys s).drop (j + 1)) = writeF true (bys s)):=HE.out (by unfold escI;rw [hsp];simp)
    clear hsp HE HP HX
    go_wp2_with (first
     | (go_at_call 102;(with_reducible refine (special_any x _).mono ?_);rintro e w4 ⟨he4,rfl⟩;rw [HSP.out] at he4;subst he4)
     | (at_builtin;refine append_grow rfl _ _ rfl _ _ rfl (HG.out.later (Ext.alloc _ _)) _ 2 2 [92,x] rfl (sl_lit _ [92,x] 2 rfl (by simp [maxLen])) (by omega) ?_;intro v' w5 hg5;have HG5:=hid hg5;clear hg5))
    exact ⟨⟨j + 1,_,by omega,by go_num,by simp;omega,HG5,HE'⟩,by simp [intOf];omega⟩
   | false=>
    have HSP:=hid hsp
    clear hsp
    rw [HSP.out] at HE HP HX
    generalize hq32 : ((x.toNat : Int) == 32) = b32 at *
    generalize hq35 : ((x.toNat : Int) == 35) = b35 at *
    generalize hq0 : ((j : Int) == 0) = b0 at *
    generalize hqL : ((j : Int) == (s.size : Int) - 1) = bL at *
    have hE2 : ∀ b,escI (x.toNat : Int) b0 bL false = b ↔ ((b32 && (b0 || bL)) || (b35 && b0)) = b:=by intro b;unfold escI;rw [hq32,hq35,Bool.or_false]
    rw [hE2] at HE HP HX
    clear hE2
    have hu : (((x.toNat : Int) < 32 ∨ 126 < (x.toNat : Int)) ∧ ((x.toNat : Int) < 32 ∨ (¬ (x.toNat : Int) < 32 ∧ 126 < (x.toNat : Int)))) ∨ (¬ ((x.toNat : Int) < 32 ∨ 126 < (x.toNat : Int)) ∧ ¬ (x.toNat : Int) < 32 ∧ ¬ 126 < (x.toNat : Int)):=by omega
    cases b32 <;> cases b35 <;> cases b0 <;> cases bL
    all_goals first
     | (have HE':=hid (HE.out rfl)
        clear HE HP HX hu
        go_wp2_with (first
         | (go_at_call 102;(with_reducible refine (special_any x _).mono ?_);rintro e w4 ⟨he4,rfl⟩;rw [HSP.out] at he4;subst he4)
         | (at_builtin;refine append_grow rfl _ _ rfl _ _ rfl (HG.out.later (Ext.alloc _ _)) _ 2 2 [92,x] rfl (sl_lit _ [92,x] 2 rfl (by simp [maxLen])) (by omega) ?_;intro v' w5 hg5;have HG5:=hid hg5;clear hg5))
        exact ⟨⟨j + 1,_,by omega,by go_num,by simp;omega,HG5,HE'⟩,by simp [intOf];omega⟩)
     | (rcases hu with ⟨hu,hv⟩ | ⟨hu,hu1,hu2⟩
        ·have HX':=hid (HX.out rfl hu)
         clear HE HP HX hu
         obtain ⟨k1,hk1⟩ : ∃ k,k = x.toNat / 16:=⟨_,rfl⟩
         obtain ⟨k2,hk2⟩ : ∃ k,k = x.toNat % 16:=⟨_,rfl⟩
         have hl1 : k1 < 16:=by omega
         have hl2 : k2 < 16:=by omega
         have g1:=bys_get (hexd_at hl1) hl1
         have g2:=bys_get (hexd_at hl2) hl2
         have hsh : (x.toNat : Int) / 16 = (k1 : Int):=by omega
         have hand:=and_low x
         rw [← hk1,← hk2] at HX'
         rw [← hk2] at hand
         have hk1' : (k1 : Int) < 16:=by omega
         have hk2' : (k2 : Int) < 16:=by omega
         generalize digitB k1 = d1 at *
         generalize digitB k2 = d2 at *
         clear hk1 hk2
         rcases hv with hv | ⟨hv,hv2⟩
         all_goals
          go_wp2_with (first
           | (go_at_call 102;(with_reducible refine (special_any x _).mono ?_);rintro e w4 ⟨he4,rfl⟩;rw [HSP.out] at he4;subst he4))
          refine wp_region_planB w.heap.size (.read 0 (.read 1 (.read 2 (.read 3 (.read 4 (.read 5 (.read 6 (.main 7 (.main 8 (.read 9 .done)))))))))) (by kernel_rfl) (by kernel_rfl) ?_
          intro wD hxD
          have XB : Hid (Below w.heap.size wD wD):=Below.refl _ _
          have HGD:=hid (HG.out.later hxD)
          repeat' (first
           | ((first | refine walksB_move rfl rfl ?_ | refine walksB_assign rfl rfl ?_ | refine walksB_skip rfl rfl ?_);simp only [Act.put,Act.eval,evs])
           | (refine walksB_unwanted rfl rfl ?_;simp only [Act.put,evp])
           | (refine walksB_read (v:=?_) rfl rfl (fun w' hE=>?_) ?_;rotate_left 1;(· ((try (have hEx:=Below.trans (Hid.out XB) hE));go_simp;(try go_bits);with_reducible rfl));simp only [Act.put,evp])
           | (refine walksB_main rfl rfl (fun K hK=>?_);(first | (refine lit_wp3 _ _ rfl d1 d2 rfl rfl ?_;intro A8 w8 hx8 hs8;have hx8':=Below.mono hx8 (ext_sz HGD.out.ext);have HGE:=hid (HGD.out.later hx8);have HS8:=hid hs8;clear hx8 hs8;have XB':=hid (Below.trans (Hid.out XB) (hx8'));clear XB;have XB:=XB';clear XB') | (refine append_grow_wp _ _ rfl _ acc rfl HGE.out _ 3 3 [92,d1,d2] rfl HS8.out (by omega) ?_;intro v' w9 hg9 hb9;have HG9:=hid hg9;clear hg9;have XB':=hid (Below.trans (Hid.out XB) (hb9));clear XB;have XB:=XB';clear XB'));refine hK _ _ (by first | assumption | exact Below.refl _ _ | exact Below.mono (Ext.alloc _ _) (Hid.out HSW) | exact Below.setCell (p:=⟨_,_,_⟩) (Below.refl _ _) (Nat.le_refl _) _) ?_;clear hK K;try simp only [Act.put,evp])
           | (refine walksB_alt ?_ ?_)
           | (refine walksB_main rfl rfl (fun K hK=>?_);go_wp2_with (fail);refine hK _ _ (by first | assumption | exact Below.refl _ _ | exact Below.mono (Ext.alloc _ _) (Hid.out HSW) | exact Below.setCell (p:=⟨_,_,_⟩) (Below.refl _ _) (Nat.le_refl _) _) ?_;clear hK K;try simp only [Act.put,evp]))
          refine walksB_done ?_
          go_wp2
          exact ⟨⟨j + 1,acc ++ [92,d1,d2],by omega,by go_num,by simp;omega,HG9,HX'⟩,by simp [intOf];omega⟩
        ·have HP':=hid (HP.out rfl hu)
         clear HE HP HX hu
         go_wp2_with (first
          | (go_at_call 102;(with_reducible refine (special_any x _).mono ?_);rintro e w4 ⟨he4,rfl⟩;rw [HSP.out] at he4;subst he4)
          | (at_builtin;refine append_grow rfl _ _ rfl _ _ rfl (HG.out.later (Ext.alloc _ _)) _ 1 1 [x] rfl (sl_char _ x) (by omega) ?_;intro v' w5 hg5;have HG5:=hid hg5;clear hg5))
         exact ⟨⟨j + 1,_,by omega,by go_num,by simp;omega,HG5,HP'⟩,by simp [intOf];omega⟩)
  ·obtain rfl : j = s.size:=by omega
   have HF : Hid (writeF true (bys s) = acc):=by show _ = _;rw [← HR.out,drop_none (Nat.le_refl _)];simp [writeF]
   obtain ⟨A1,c1,rfl,hs1⟩:=HG.out.sl
   have hC:=hs1.conv wr (Ext.refl wr)
   clear hs1
   go_wp2
   go_ret
   exact ⟨by rw [HF.out];rfl,HG.out.ext⟩
end Go.Proofs.YtahahafhendgoaaGreatDoor
namespace Go.Proofs.YtahahafhendgoaaGreatDoor
open Go.RowKit
def inner (w : World) (v : Value) (L : Option Nat) : Nat → Prop:=fun b=>w.heap.size ≤ b ∧ some b ≠ v.ownBlock ∧ some b ≠ L
structure GrowR {α : Type} (E : Elem α) (T : TypeId) (L : Option Nat) (w wr : World) (v : Value) (l : List α) : Prop where
 rows : ∃ vss : List (List Value),vss.length = l.length ∧ wr.ownsRow w.heap.size T E.k v l.length vss.flatten ∧ (∀ (i : Nat) u x,vss[i]? = some u → l[i]? = some x → E.R (inner w v L) wr u x)
 ext : Ext w wr
 apart : ∀ g,L = some g → v.ownBlock ≠ some g ∧ w.heap.size ≤ g ∧ g < wr.heap.size
section
variable {α : Type} {E : Elem α} {T : TypeId} {L : Option Nat} {w wr w' : World} {v : Value} {l : List α}
theorem GrowR.nil (hx : Ext w wr) (hL : ∀ g,L = some g → w.heap.size ≤ g ∧ g < wr.heap.size) : GrowR E T L w wr (.slice none 0 0) []:=
 ⟨⟨[],rfl,World.ownsRow_nil _ _ _ _,fun i u x h=>by simp at h⟩,hx,fun g hg=>⟨by simp [Value.ownBlock],hL g hg⟩⟩
theorem elem_keep {S S' : Nat → Prop} {u : List Value} {x : α} (h : E.R S wr u x) (hk : ∀ b,S b → b < wr.heap.size → w'.heap[b]? = wr.heap[b]?) (hs : ∀ b,S b → b < wr.heap.size → S' b) : E.R S' w' u x:=by
 have h1 : E.R (fun b=>S b ∧ b < wr.heap.size) wr u x:=E.mono h fun b hb hS=>⟨hS,hb⟩
 have h2 : E.R (fun b=>S b ∧ b < wr.heap.size) w' u x:=E.same h1 fun b hb=>hk b hb.1 hb.2
 exact E.mono h2 fun b _ hb=>hs b hb.1 hb.2
theorem GrowR.later (h : GrowR E T L w wr v l) (hx : Ext wr w') : GrowR E T L w w' v l:=by
 obtain ⟨⟨vss,h1,h2,h3⟩,h4,h5⟩:=h
 exact ⟨⟨vss,h1,own_ext h2 hx,fun i u x hi hl=>elem_keep (h3 i u x hi hl) (fun b _ hb=>hx.block b hb) (fun b hS _=>hS)⟩,h4.trans hx,fun g hg=>⟨(h5 g hg).1,(h5 g hg).2.1,Nat.lt_of_lt_of_le (h5 g hg).2.2 hx.size⟩⟩
theorem GrowR.setL {g : Nat} (h : GrowR E T (some g) w wr v l) (i : Nat) (z : Value) : GrowR E T (some g) w (wr.setCell ⟨g,i,none⟩ z) v l:=by
 obtain ⟨⟨vss,h1,h2,h3⟩,h4,h5⟩:=h
 obtain ⟨ha,hb,hc⟩:=h5 g rfl
 refine ⟨⟨vss,h1,?_,fun i' u x hi hl=>elem_keep (h3 i' u x hi hl) (fun b hS _=>heap_setCell_other _ _ _ _ (fun e=>hS.2.2 (by rw [e]))) (fun b hS _=>hS)⟩,h4.setCell hb _,fun g' hg=>⟨(h5 g' hg).1,(h5 g' hg).2.1,by simpa using (h5 g' hg).2.2⟩⟩
 obtain ⟨q1,q2⟩:=h2
 refine ⟨q1,?_⟩
 rcases q2 with q2 | ⟨k,cap,cur,e1,e2,e3,e4⟩
 ·exact .inl q2
 ·refine .inr ⟨k,cap,cur,e1,e2,?_,e4⟩
  rw [heap_setCell_other _ _ _ _ (fun e=>ha (by rw [e1];exact congrArg some e))]
  exact e3
theorem GrowR.row (h : GrowR E T L w wr v l) : ∃ A c,v = .slice A l.length c ∧ Row E (fun b=>w.heap.size ≤ b) wr A l.length c l:=by
 obtain ⟨⟨vss,h1,h2,h3⟩,h4,h5⟩:=h
 obtain ⟨A,c,rfl⟩ : ∃ A c,v = .slice A l.length c:=by
  rcases h2.2 with ⟨rfl,h0⟩ | ⟨g,cap,cur,rfl,_⟩
  ·exact ⟨none,0,by rw [h0]⟩
  ·exact ⟨_,_,rfl⟩
 exact ⟨A,c,rfl,own_rows h2 rfl h1 (fun g hg=>(h2.lt g hg).1) fun i u x hi hl=>E.mono (h3 i u x hi hl) fun b _ hS=>hS.1⟩
theorem GrowR.fresh {u : List Value} {x : α} {w1 : World} (h : GrowR E T L w wr v l) (hx : Ext wr w1) {B : Nat} (hB : wr.heap.size ≤ B) (hE : E.R (fun b=>B ≤ b) w' u x) : E.R (inner w v L) w' u x:=by
 obtain ⟨⟨vss,h1,h2,h3⟩,h4,h5⟩:=h
 refine E.mono hE fun b _ hb=>⟨Nat.le_trans h4.size (Nat.le_trans hB hb),fun e=>?_,fun e=>?_⟩
 ·have:=(h2.lt b e.symm).2
  omega
 ·have:=(h5 b e.symm).2.2
  omega
theorem GrowR.snoc {v' : Value} {x : α} {u : List Value} (h : GrowR E T L w wr v l) (hx : E.R (inner w v L) wr u x) (ho : ∀ vss,wr.ownsRow w.heap.size T E.k v l.length vss → w'.ownsRow w.heap.size T E.k v' (l.length + 1) (vss ++ u)) (hg : wr.grownBy w' v.ownBlock)
 (hb : v'.ownBlock = v.ownBlock ∨ v'.ownBlock = some wr.heap.size) : GrowR E T L w w' v' (l ++ [x]) ∧ Below w.heap.size wr w':=by
 obtain ⟨⟨vss,h1,h2,h3⟩,h4,h5⟩:=h
 have hbw : Below w.heap.size wr w':=below_grown h2 hg (ext_sz h4) (Nat.le_refl _)
 have hkeep : ∀ b,inner w v L b → b < wr.heap.size → w'.heap[b]? = wr.heap[b]?:=fun b hS hlt=>hg.block b hlt hS.2.1
 have hin : ∀ b,inner w v L b → b < wr.heap.size → inner w v' L b:=fun b hS hlt=>⟨hS.1,fun e=>by
  rcases hb with hb | hb
  ·exact hS.2.1 (by rw [e,hb])
  ·rw [hb] at e;injection e with e;omega,hS.2.2⟩
 refine ⟨⟨⟨vss ++ [u],by simp [h1],?_,fun i u' x' hi hl=>?_⟩,Below.trans h4 hbw,fun g hgL=>?_⟩,hbw⟩
 ·rw [List.length_append,List.length_cons,List.length_nil,List.flatten_append]
  simpa using ho _ h2
 ·rcases Nat.lt_or_ge i vss.length with hlt | hge
  ·rw [List.getElem?_append_left hlt] at hi
   rw [List.getElem?_append_left (by omega)] at hl
   exact elem_keep (h3 i u' x' hi hl) hkeep hin
  ·rw [List.getElem?_append_right hge] at hi
   rw [List.getElem?_append_right (by omega)] at hl
   have hz : i - vss.length = 0:=by
    have:=(List.getElem?_eq_some_iff.1 hi).1
    simp at this
    omega
   rw [hz] at hi
   rw [← h1,hz] at hl
   simp at hi hl
   subst hi hl
   exact elem_keep hx hkeep hin
 ·obtain ⟨ha,hb',hc⟩:=h5 g hgL
  refine ⟨?_,hb',Nat.lt_of_lt_of_le hc hg.size⟩
  rcases hb with hb | hb
  ·rw [hb];exact ha
  ·rw [hb];intro e;injection e with e;omega
theorem Bx.grown {g : Nat} {U : TypeId} {cs : Array Value} {r : Option Nat} (h : Bx w wr g U cs) (hg : wr.grownBy w' r) (hne : r ≠ some g) (hb : Below w.heap.size wr w') : Bx w w' g U cs:=
 ⟨h.new,(hg.block g h.lt (fun e=>hne e.symm)).trans h.blk,Below.trans h.ext hb⟩
end
end Go.Proofs.YtahahafhendgoaaGreatDoor
