/- Lemmas of the walk that the last text of this claim joins. -/
import Derived.Test.YtahahafhendgoaaGreatDoorZ19
import Derived.Test.YtahahafhendgoaaGreatDoorZ15
import Derived.Laws.Externs
import Derived.Laws.Cover2
import Derived.Laws.Cover3
import Derived.Laws.FloatArith
import Derived.Test.YtahahafhendgoaaGreatDoorZ17
import Derived.Test.YtahahafhendgoaaGreatDoorZ12
set_option maxHeartbeats 40000000
set_option linter.unusedVariables false
set_option linter.unusedSimpArgs false
namespace Go.Proofs.YtahahafhendgoaaGreatDoor
open Go.RowKit
set_option maxRecDepth 100000
theorem toIntegral_number {P : Program} (x : Nat) {s : Bool} {m : Nat} {p : Int} (hx : FloatKind.decode .f64 x = .number s m p) (w : World) :
 (Extern.MathFloor.toIntegral "math.archTrunc" .zero #[.float .f64 x]).run P w = .ok (.float .f64 (FloatKind.encode .f64 ((Ieee.Datum.number s m p).integral .zero))) w:=by
 obtain ⟨A,hA⟩ : ∃ A : Bool → Nat → Sem Value,Extern.MathFloor.toIntegral "math.archTrunc" .zero #[.float .f64 x] = (match FloatKind.decode .f64 x with | .nan s t=>A s t | d=>pure (.float .f64 (FloatKind.encode .f64 (d.integral .zero)))):=⟨_,rfl⟩
 rw [hA,hx]
 rfl
theorem toIntegral_bits {P : Program} {n : Int} (h : n.natAbs < 9007199254740992) (w : World) : (Extern.MathFloor.toIntegral "math.archTrunc" .zero #[.float .f64 (bitsI n)]).run P w = .ok (.float .f64 (bitsI n)) w:=by
 have ht:=trunc_bits h
 have hd : FloatKind.decode .f64 (bitsI n) = Ieee.double.read (bitsI n):=rfl
 by_cases h0 : n = 0
 ·subst h0
  rw [bits_zero,read_zero] at *
  rw [toIntegral_number 0 hd]
  exact congrArg (fun b=>Result.ok (Value.float .f64 b) w) ht
 ·rw [read_bits h0 h] at *
  rw [toIntegral_number _ hd]
  exact congrArg (fun b=>Result.ok (Value.float .f64 b) w) ht
theorem trunc_run {n : Int} (h : n.natAbs < 9007199254740992) (w : World) : (callFunc 221 #[.float .f64 (bitsI n)]).run Tryz.prog w = .ok (.value (.float .f64 (bitsI n))) w:=by
 have:=run_callFunc_extern (P:=Tryz.prog) (e:=Extern.MathFloor.toIntegral "math.archTrunc" .zero) Tryz.func221 (by kernel_rfl) (by kernel_rfl) (by kernel_rfl) (by kernel_rfl) #[.float .f64 (bitsI n)] w
 rw [this,toIntegral_bits h]
 rfl
theorem tobits_run (b : Nat) (w : World) : (callFunc 224 #[.float .f64 b]).run Tryz.prog w = .ok (.value (.int .u64 b)) w:=by
 have:=run_callFunc_extern (P:=Tryz.prog) (e:=Extern.MathFloatBits.float64bits) Tryz.func224 (by kernel_rfl) (by kernel_rfl) (by kernel_rfl) (by kernel_rfl) #[.float .f64 b] w
 rw [this]
 rfl
theorem frombits_run (b : Nat) (w : World) : (callFunc 223 #[.int .u64 b]).run Tryz.prog w = .ok (.value (.float .f64 b)) w:=by
 have:=run_callFunc_extern (P:=Tryz.prog) (e:=Extern.MathFloatBits.float64frombits) Tryz.func223 (by kernel_rfl) (by kernel_rfl) (by kernel_rfl) (by kernel_rfl) #[.int .u64 b] w
 rw [this]
 rfl
theorem mtrunc_any {n : Int} (h : n.natAbs < 9007199254740992) (w : World) : Calls Tryz.prog 218 #[.float .f64 (bitsI n)] w fun e w'=>e = .returned (.float .f64 (bitsI n)) ∧ w' = w:=by
 have ht:=fun w=>trunc_run h w
 generalize bitsI n = b at *
 go_enter Tryz.func218,Tryz.ntmps218
 go_wp2
 go_ret
 exact ⟨rfl,rfl⟩
theorem abs_val {n : Int} (h : n.natAbs < 9007199254740992) : bits .andNot .u64 (bitsI n) 9223372036854775808 = (bitsI (n.natAbs : Int) : Int):=by
 have hl:=bits_lt h
 have ha:=abs_bits h
 have hk : bitsI (n.natAbs : Int) < 9223372036854775808:=by rw [← ha];exact Nat.mod_lt _ (by decide)
 have e1 : (BitVec.ofInt 64 (bitsI n : Int) &&& ~~~BitVec.ofInt 64 9223372036854775808).toNat = bitsI n % 9223372036854775808:=by
  have e2 : ~~~BitVec.ofInt 64 9223372036854775808 = BitVec.ofNat 64 (2 ^ 63 - 1):=by decide
  rw [e2,BitVec.toNat_and,BitVec.toNat_ofNat]
  have e3 : (BitVec.ofInt 64 (bitsI n : Int)).toNat = bitsI n:=by
   rw [BitVec.toNat_ofInt]
   omega
  rw [e3,show (2 ^ 63 - 1) % 2 ^ 64 = 2 ^ 63 - 1 by decide,Nat.and_two_pow_sub_one_eq_mod]
 show IntKind.wrap .u64 ((BitVec.ofInt 64 (bitsI n : Int) &&& ~~~BitVec.ofInt 64 9223372036854775808).toNat : Int) = _
 rw [e1,ha]
 unfold IntKind.wrap
 simp [IntKind.signed,IntKind.bits]
 omega
theorem mabs_any {n : Int} (h : n.natAbs < 9007199254740992) (w : World) : Calls Tryz.prog 219 #[.float .f64 (bitsI n)] w fun e w'=>e = .returned (.float .f64 (bitsI (n.natAbs : Int))) ∧ w' = w:=by
 have ht:=fun w=>tobits_run (bitsI n) w
 have hf:=fun w=>frombits_run (bitsI (n.natAbs : Int)) w
 have ha:=abs_val h
 generalize bitsI (n.natAbs : Int) = c at *
 generalize bitsI n = b at *
 go_enter Tryz.func219,Tryz.ntmps219
 go_wp2
 go_ret
 exact ⟨rfl,rfl⟩
theorem msign_cmp {b : Nat} (h : b < 18446744073709551616) : decide (wrap64 (b : Int) < 0) = decide (9223372036854775808 ≤ b):=by
 have : wrap64 (b : Int) < 0 ↔ 9223372036854775808 ≤ b:=by unfold wrap64;omega
 exact decide_eq_decide.mpr this
theorem msign_any {n : Int} (h : n.natAbs < 9007199254740992) (w : World) : Calls Tryz.prog 220 #[.float .f64 (bitsI n)] w fun e w'=>e = .returned (.bool (decide (n < 0))) ∧ w' = w:=by
 have ht:=fun w=>tobits_run (bitsI n) w
 have hs:=sign_bits h
 have hl:=bits_lt h
 rw [← hs]
 generalize bitsI n = b at *
 clear hs h
 go_enter Tryz.func220,Tryz.ntmps220
 go_wp2
 have hc:=msign_cmp hl
 go_ret
 exact ⟨by rw [hc];rfl,rfl⟩
theorem cmp_bits {a b : Int} (ha : a.natAbs < 9007199254740992) (hb : b.natAbs < 9007199254740992) : (FloatKind.f64).format.order (bitsI a) (bitsI b) = some (compare a b):=order_bits ha hb
theorem bits_million : bitsI 1000000 = 4696837146684686336:=by decide
theorem bits_one : bitsI 1 = 4607182418800017408:=by decide
theorem bits_mone : bitsI (-1) = 13830554455654793216:=by decide
theorem part_any {n : Int} (h : n.natAbs < 9007199254740992) (w : World) : Calls Tryz.prog 209 #[.float .f64 (bitsI n)] w fun e w'=>e = .returned (.bool (decide (n.natAbs ≤ 1000000))) ∧ w' = w:=by
 have h1:=fun w=>mtrunc_any h w
 have h2:=fun w=>mabs_any h w
 have h3:=fun w=>msign_any h w
 have c1 : ((FloatKind.f64).format.order (bitsI n) (bitsI n) == some .eq) = true:=by rw [cmp_bits h h];simp
 have c2 : ((FloatKind.f64).format.order (bitsI (n.natAbs : Int)) 4696837146684686336 == some .lt || (FloatKind.f64).format.order (bitsI (n.natAbs : Int)) 4696837146684686336 == some .eq) = decide (n.natAbs ≤ 1000000):=by
  rw [← bits_million,cmp_bits (by omega) (by decide)]
  rcases Int.lt_trichotomy (n.natAbs : Int) 1000000 with h | h | h
  ·rw [(Int.compare_eq_lt).2 h];simp;omega
  ·rw [(Int.compare_eq_eq).2 h];simp;omega
  ·rw [(Int.compare_eq_gt).2 h];simp;omega
 have c3 : ((FloatKind.f64).format.order (bitsI n) 0 != some .eq) = decide (n ≠ 0):=by
  rw [← bits_zero,cmp_bits h (by decide)]
  rcases Int.lt_trichotomy n 0 with h | h | h
  ·have hn : n ≠ 0:=by omega
   rw [(Int.compare_eq_lt).2 h];simp [hn]
  ·rw [(Int.compare_eq_eq).2 h];simp [h]
  ·have hn : n ≠ 0:=by omega
   rw [(Int.compare_eq_gt).2 h];simp [hn]
 generalize bitsI n = b at *
 generalize bitsI (n.natAbs : Int) = c at *
 go_enter Tryz.func209,Tryz.ntmps209
 go_wp2_with (first
  | (go_at_call 218;(with_reducible refine (h1 _).mono ?_);rintro e w1 ⟨rfl,rfl⟩)
  | (go_at_call 219;(with_reducible refine (h2 _).mono ?_);rintro e w1 ⟨rfl,rfl⟩)
  | (go_at_call 220;(with_reducible refine (h3 _).mono ?_);rintro e w1 ⟨rfl,rfl⟩))
 all_goals clear h1 h2 h3
 all_goals go_ret
 all_goals exact ⟨by simp [*] <;> (try rfl),rfl⟩
theorem phformed_any {a b : Int} (ha : a.natAbs < 9007199254740992) (hb : b.natAbs < 9007199254740992) (w : World) : Calls Tryz.prog 186 #[.complex .f64 (bitsI a) (bitsI b)] w fun e w'=>e = .returned (.bool (decide (a.natAbs ≤ 1000000) && decide (b.natAbs ≤ 1000000))) ∧ w' = w:=by
 have h1:=fun w=>part_any ha w
 have h2:=fun w=>part_any hb w
 generalize bitsI a = x at *
 generalize bitsI b = y at *
 generalize decide (a.natAbs ≤ 1000000) = d at *
 generalize decide (b.natAbs ≤ 1000000) = f at *
 go_enter Tryz.func186,Tryz.ntmps186
 go_wp2_with (first
  | (go_at_call 209;(with_reducible refine (h1 _).mono ?_);rintro e w1 ⟨rfl,rfl⟩)
  | (go_at_call 209;(with_reducible refine (h2 _).mono ?_);rintro e w1 ⟨rfl,rfl⟩))
 all_goals go_ret
 all_goals exact ⟨by simp [*] <;> (try rfl),rfl⟩
theorem toint_val {n : Int} (h : n.natAbs < 9007199254740992) : floatToIntVal .f64 (bitsI n) .i64 = some n:=by
 have ht:=toInt_bits h
 have hd : FloatKind.decode .f64 (bitsI n) = Ieee.double.read (bitsI n):=rfl
 unfold floatToIntVal
 rw [hd,ht]
 have h1 : IntKind.i64.min = -9223372036854775808:=by decide
 have h2 : IntKind.i64.max = 9223372036854775807:=by decide
 show (if IntKind.i64.min ≤ n ∧ n ≤ IntKind.i64.max then some n else none) = some n
 rw [if_pos ⟨by omega,by omega⟩]
theorem conv_run {n : Int} (h : n.natAbs < 9007199254740992) (w : World) : (convert 214 2 (.float .f64 (bitsI n))).run Tryz.prog w = .ok (.int .i64 n) w:=
 run_convert_float_int w _ _ .f64 .i64 _ n (by rw [Tryz.underlying214];rfl) Tryz.underlying2 (toint_val h)
theorem integer_any {n : Int} (h : n.natAbs < 9007199254740992) (w : World) (hG : Gl w) : Calls Tryz.prog 187 #[.float .f64 (bitsI n)] w fun e w'=>e = .returned (.string (str (Lib.itoa n))) ∧ Ext w w':=by
 have hc:=conv_run h w
 have hf:=formatint_any n w hG (by omega) (by omega)
 generalize bitsI n = b at *
 go_enter Tryz.func187,Tryz.ntmps187
 go_wp2_with (go_at_call 136;(with_reducible refine hf.mono ?_);rintro e w1 ⟨rfl,hx⟩)
 go_ret
 exact ⟨rfl,hx⟩
theorem parse32_bound {l : List UInt8} {n : Int} (h : Lib.parseIntB 32 l = .ok n) : n.natAbs ≤ 2147483648:=by
 unfold Lib.parseIntB at h
 split at h
 ·cases h
 ·simp only at h
  split at h
  ·cases h
  ·cases h
  ·split at h
   ·cases h
   ·split at h
    ·cases h
    ·cases h
     split <;> omega
theorem parseint32_ok (s : ByteArray) (n : Int) (w : World) (hs : s.size ≤ 4000000) (h : Lib.parseIntB 32 (bys s) = .ok n) :
 Calls Tryz.prog 135 #[.string s,.int .i64 10,.int .i64 32] w fun e w'=>e = .returned (.tuple #[.int .i64 n,.nilIface]) ∧ Ext w w':=by
 refine (Any.strconv_ParseInt_10_at32_ok Tryz.laysC174 s (by omega) n h w).mono ?_
 rintro e w' ⟨rfl,rfl | ⟨t,rfl⟩⟩
 ·exact ⟨rfl,Ext.refl _⟩
 ·exact ⟨rfl,ext_bytes _ _ _⟩
theorem sat32 (l : List UInt8) : (Lib.intSat 32 l).natAbs < 9007199254740992:=by
 unfold Lib.intSat
 split <;> decide
theorem parseint32_bad (s : ByteArray) (w : World) (hG : Gl w) (hs : s.size ≤ 4000000) (h : ∀ n,Lib.parseIntB 32 (bys s) ≠ .ok n) :
 Calls Tryz.prog 135 #[.string s,.int .i64 10,.int .i64 32] w fun e w'=>(∃ (n : Int) (tp : Nat) (a : Addr),n.natAbs < 9007199254740992 ∧ e = .returned (.tuple #[.int .i64 n,.iface tp (.pointer (some a))])) ∧ Ext w w':=by
 obtain ⟨-,⟨t1,p1,h1⟩,⟨t2,p2,h2⟩,-⟩:=hG
 rcases hp : Lib.parseIntB 32 (bys s) with n | _ | _
 ·exact absurd hp (h n)
 ·refine (Any.strconv_ParseInt_10_at32_syntax_var Tryz.laysC174 s (by omega) hp t1 p1 w h1).mono ?_
  rintro e w' ⟨N,rfl,_,_,hx⟩
  exact ⟨⟨_,_,_,by decide,rfl⟩,hx⟩
 ·refine (Any.strconv_ParseInt_10_at32_range_var Tryz.laysC174 s (by omega) hp t2 p2 w h2).mono ?_
  rintro e w' ⟨N,rfl,_,_,hx⟩
  exact ⟨⟨_,_,_,sat32 _,rfl⟩,hx⟩
def ReadSays (s : ByteArray) (w : World) (e : Ending) (w' : World) : Prop:=∃ (n : Int) (b : Bool),n.natAbs < 9007199254740992 ∧ e = .returned (.tuple #[.float .f64 (bitsI n),.bool b]) ∧ Ext w w' ∧ (b = true → Lib.parseIntB 32 (bys s) = .ok n) ∧ (b = false → ∀ n,Lib.parseIntB 32 (bys s) ≠ .ok n)
theorem convf_run (n : Int) (w : World) : (convert 2 214 (.int .i64 n)).run Tryz.prog w = .ok (.float .f64 (bitsI n)) w:=
 run_convert_int_float w _ _ .i64 .f64 n (by rw [Tryz.underlying2];rfl) Tryz.underlying214
theorem phread_any (s : ByteArray) (w : World) (hG : Gl w) (hs : s.size ≤ 4000000) : Calls Tryz.prog 160 #[.string s] w (ReadSays s w):=by
 by_cases hp : ∃ n,Lib.parseIntB 32 (bys s) = .ok n
 ·obtain ⟨n,hn⟩:=hp
  have hb:=parse32_bound hn
  have HC:=parseint32_ok s n w hs hn
  have hc:=convf_run n
  have HS : ∀ w',Ext w w' → ReadSays s w (.returned (.tuple #[.float .f64 (bitsI n),.bool true])) w':=fun w' hx=>⟨n,true,by omega,rfl,hx,fun _=>hn,fun h=>by cases h⟩
  generalize bitsI n = b at *
  clear hn hb
  generalize ReadSays s w = R at *
  go_enter Tryz.func160,Tryz.ntmps160
  go_wp2_with (go_at_call 135;(with_reducible refine HC.mono ?_);rintro e w1 ⟨rfl,hx⟩;have HX:=hid hx;clear hx HC)
  refine wp_region_plan (.read 0 (.read 1 (.read 2 (.read 3 (.read 4 (.read 5 .done)))))) (by kernel_rfl) (by kernel_rfl) ?_
  intro wD hxD
  repeat' (first
   | ((first | refine walks_move rfl rfl ?_ | refine walks_assign rfl rfl ?_ | refine walks_skip rfl rfl ?_);simp only [Act.put,Act.eval,evs])
   | (refine walks_unwanted rfl rfl ?_;simp only [Act.put,evp])
   | (refine walks_read (v:=?_) rfl rfl (fun w' hE=>?_) ?_;rotate_left 1;(· ((try (have hEx:=Ext.trans (Hid.out XE) hE));go_simp;(try go_bits);with_reducible rfl));simp only [Act.put,evp])
   | (refine walks_alt ?_ ?_)
   | (refine walks_main rfl rfl (fun K hK=>?_);go_wp2_with (fail);refine hK _ _ (by first | assumption | exact Ext.alloc _ _ | exact Ext.refl _) ?_;clear hK K;try simp only [Act.put,evp]))
  refine walks_done ?_
  go_wp2
  first | exact HX.out.trans hxD | exact HS _ (HX.out.trans hxD)
 ·have HC:=parseint32_bad s w hG hs (fun n hn=>hp ⟨n,hn⟩)
  have HS : ∀ n w',n.natAbs < 9007199254740992 → Ext w w' → ReadSays s w (.returned (.tuple #[.float .f64 (bitsI n),.bool false])) w':=fun n w' hb hx=>⟨n,false,hb,rfl,hx,fun h=>by (cases h),fun _ n hn=>hp ⟨n,hn⟩⟩
  clear hp
  generalize ReadSays s w = R at *
  go_enter Tryz.func160,Tryz.ntmps160
  go_wp2_with (go_at_call 135;(with_reducible refine HC.mono ?_);rintro e w1 ⟨⟨n,tp,a,hb,rfl⟩,hx⟩;have HX:=hid hx;have HS:=HS n;have hc:=convf_run n;clear hx HC)
  generalize bitsI n = b at *
  refine wp_region_plan (.read 0 (.read 1 (.read 2 (.read 3 (.read 4 (.read 5 .done)))))) (by kernel_rfl) (by kernel_rfl) ?_
  intro wD hxD
  repeat' (first
   | ((first | refine walks_move rfl rfl ?_ | refine walks_assign rfl rfl ?_ | refine walks_skip rfl rfl ?_);simp only [Act.put,Act.eval,evs])
   | (refine walks_unwanted rfl rfl ?_;simp only [Act.put,evp])
   | (refine walks_read (v:=?_) rfl rfl (fun w' hE=>?_) ?_;rotate_left 1;(· ((try (have hEx:=Ext.trans (Hid.out XE) hE));go_simp;(try go_bits);with_reducible rfl));simp only [Act.put,evp])
   | (refine walks_alt ?_ ?_)
   | (refine walks_main rfl rfl (fun K hK=>?_);go_wp2_with (fail);refine hK _ _ (by first | assumption | exact Ext.alloc _ _ | exact Ext.refl _) ?_;clear hK K;try simp only [Act.put,evp]))
  refine walks_done ?_
  go_wp2
  exact HS _ hb (HX.out.trans hxD)
theorem value_any (s : ByteArray) (w : World) (hs : s.size ≤ 4000000) : Calls Tryz.prog 121 #[.string s] w (ValSays w (valueB (bys s))):=by
 have Hs:=hid hs
 by_cases hz : s.size = 0
 ·have e1:=emp_yes hz
  have HV : Hid (valueB (bys s) = readF [] (bys s)):=by rw [str_emp hz];rfl
  clear hz
  go_enter Tryz.func121,Tryz.ntmps121
  go_wp2
  go_loopw [5] (fun i wr=>∃ (j : Nat) (acc : List UInt8),j ≤ s.size ∧ i = .int .i64 j ∧ acc.length ≤ j ∧ Hid (IsB w.heap.size w.heap.size acc wr) ∧ Hid (readF acc ((bys s).drop j) = readF [] (bys s)) ∧ Hid (Below w.heap.size w wr)) (fun i _=>s.size - (intOf i).toNat)
  case atStart=>exact ⟨0,[],by omega,rfl,by simp,isB_new w,by simp [Hid],Ext.alloc _ _⟩
  case round=>
   obtain ⟨j,acc,hj,rfl,hacc,HI,HR,HX⟩:=hrel
   by_cases hlt : j < s.size
   ·obtain ⟨x,hx⟩:=at_some hlt
    have gx:=bys_get hx hlt
    have hd:=hid (drop_at hx)
    clear hx
    by_cases h92 : x = 92
    ·have t92 : ((x.toNat : Int) != 92) = false:=by rw [h92];rfl
     by_cases hl1 : j + 1 < s.size
     ·have hl1' : (j : Int) + 1 < (s.size : Int):=by omega
      obtain ⟨y,hy⟩:=at_some hl1
      have gy:=bys_get hy hl1
      have hd1:=drop_at hy
      clear hy
      cases hsp : spec2 y with
      | true=>
       have HM:=hid ((mem_spec2 y).1 hsp)
       have HH : Hid (readF (acc ++ [y]) ((bys s).drop (j + 1 + 1)) = readF [] (bys s)):=by show _ = _;rw [← HR.out,hd.out,hd1,h92,readF_spec hsp]
       clear h92 hsp hd1
       go_wp2_with (first
        | (go_at_call 125;(with_reducible refine (indexbyte_yes _ _ y (u8_back _) _ HM.out).mono ?_);rintro e w4 ⟨⟨i,rfl⟩,rfl⟩;have hi0 : 0 ≤ (i : Int):=by omega)
        | (go_at_call 93;(with_reducible refine (writeByte_any y HI.out (by omega)).mono ?_);rintro e w5 ⟨rfl,hi5,hx5⟩;have HI5:=hid hi5;have HX5:=hid hx5;clear hi5 hx5))
       exact ⟨⟨j + 2,acc ++ [y],by omega,by go_num,by simp;omega,HI5,HH,Below.trans HX.out HX5.out⟩,by simp [intOf];omega⟩
      | false=>
       have HM : Hid (y ∉ ([44,43,34,92,60,62,59,35,61,32] : List UInt8)):=fun h=>by have:=(mem_spec2 y).2 h;rw [hsp] at this;cases this
       by_cases hl2 : j + 2 < s.size
       ·have hl2' : (j : Int) + 2 < (s.size : Int):=by omega
        obtain ⟨z,hz⟩:=at_some hl2
        have gz:=bys_get hz hl2
        have hd2:=drop_at hz
        clear hz
        have hH:=readF_hex (acc:=acc) (t:=(bys s).drop (j + 2 + 1)) (d:=y) (e:=z) hsp
        by_cases hy0 : hexZ y < 0
        ·have HF : Hid (readF [] (bys s) = none):=by show _ = _;rw [← HR.out,hd.out,hd1,hd2,h92,hH,hexZ_neg hy0]
         clear h92 hsp hd1 hd2 hH
         go_wp2_with (first
          | (go_at_call 125;(with_reducible refine (indexbyte_no _ _ y (u8_back _) _ HM.out).mono ?_);rintro e w4 ⟨rfl,rfl⟩)
          | (go_at_call 147;(with_reducible refine (digit_any y _).mono ?_);rintro e w5 ⟨rfl,hx5⟩;have HX5:=hid hx5;clear hx5))
         go_ret2
         exact ⟨by rw [HV.out,HF.out];rfl,Below.trans HX.out (Below.mono HX5.out HI.out.le)⟩
        ·obtain ⟨a,ha1,ha2,ha3⟩:=hexZ_pos hy0
         by_cases hz0 : hexZ z < 0
         ·have HF : Hid (readF [] (bys s) = none):=by show _ = _;rw [← HR.out,hd.out,hd1,hd2,h92,hH,ha1,hexZ_neg hz0]
          clear h92 hsp hd1 hd2 hH ha1 ha2 ha3
          go_wp2_with (first
           | (go_at_call 125;(with_reducible refine (indexbyte_no _ _ y (u8_back _) _ HM.out).mono ?_);rintro e w4 ⟨rfl,rfl⟩)
           | (go_at_call 147;(with_reducible refine (digit_any y _).mono ?_);rintro e w5 ⟨rfl,hx5⟩;have HX5:=hid hx5;clear hx5)
           | (go_at_call 147;(with_reducible refine (digit_any z _).mono ?_);rintro e w6 ⟨rfl,hx6⟩;have HX6:=hid hx6;clear hx6))
          go_ret2
          exact ⟨by rw [HV.out,HF.out];rfl,Below.trans HX.out (Below.mono (HX5.out.trans HX6.out) HI.out.le)⟩
         ·obtain ⟨b,hb1,hb2,hb3⟩:=hexZ_pos hz0
          have HH : Hid (readF (acc ++ [UInt8.ofNat (16 * a + b)]) ((bys s).drop (j + 2 + 1)) = readF [] (bys s)):=by show _ = _;rw [← HR.out,hd.out,hd1,hd2,h92,hH,ha1,hb1]
          have HA:=hid ha2
          have HB:=hid hb2
          obtain ⟨q,hq⟩ : ∃ q,q = UInt8.ofNat (16 * a + b):=⟨_,rfl⟩
          rw [← hq] at HH
          have hov : bits BinOp.or IntKind.i64 ((a : Int) * 16) (b : Int) % 256 = (q.toNat : Int):=by
           have h1:=hex_or a ha3 b hb3
           rw [Int.natCast_mul,Int.mul_comm] at h1
           have h2 : (((16 : Nat) : Int)) = 16:=rfl
           rw [h2] at h1
           rw [h1,hq,UInt8.toNat_ofNat']
           omega
          clear hq
          have ta : ¬ (a : Int) < 0:=by omega
          have tb : ¬ (b : Int) < 0:=by omega
          clear h92 hsp hd1 hd2 hH ha1 hb1 hy0 hz0 ha2 hb2
          go_wp2_with (first
           | (go_at_call 125;(with_reducible refine (indexbyte_no _ _ y (u8_back _) _ HM.out).mono ?_);rintro e w4 ⟨rfl,rfl⟩)
           | (go_at_call 147;(with_reducible refine (digit_any y _).mono ?_);rintro e w5 ⟨he5,hx5⟩;rw [HA.out] at he5;subst he5;have HX5:=hid hx5;clear hx5)
           | (go_at_call 147;(with_reducible refine (digit_any z _).mono ?_);rintro e w6 ⟨he6,hx6⟩;rw [HB.out] at he6;subst he6;have HX6:=hid hx6;clear hx6))
          have HI6:=hid (HI.out.ext (HX5.out.trans HX6.out))
          have HX0:=hid (Below.trans HX.out (Below.mono (HX5.out.trans HX6.out) HI.out.le))
          refine wp_region_planB w.heap.size (.read 0 (.read 1 (.read 2 (.read 3 (.read 6 (.read 7 (.read 8 (.read 9 (.main 4 (.read 5 (.main 10 (.read 11 (.read 12 (.main 13 .done)))))))))))))) (by kernel_rfl) (by kernel_rfl) ?_
          intro wD hxD
          have XB : Hid (Below w.heap.size wD wD):=Below.refl _ _
          have HID:=hid (HI6.out.ext hxD)
          have HXD:=hid (Below.trans HX0.out (Below.mono hxD HI6.out.le))
          have hle:=hid HID.out.le
          have p1 : 0 ≤ (j : Int) + 1:=by omega
          have p2 : 0 ≤ (j : Int) + 2:=by omega
          repeat' (first
           | ((first | refine walksB_move rfl rfl ?_ | refine walksB_assign rfl rfl ?_ | refine walksB_skip rfl rfl ?_);simp only [Act.put,Act.eval,evs])
           | (refine walksB_unwanted rfl rfl ?_;simp only [Act.put,evp])
           | (refine walksB_read (v:=?_) rfl rfl (fun w' hE=>?_) ?_;rotate_left 1;(· ((try (have hEx:=Below.trans (Hid.out XB) hE));go_simp;(try go_bits);with_reducible rfl));simp only [Act.put,evp])
           | (refine walksB_alt ?_ ?_)
           | (refine walksB_main rfl rfl (fun K hK=>?_);go_wp2_with (first | (go_at_call 147;(with_reducible refine (digit_any y _).mono ?_);rintro e w7 ⟨he7,hx7⟩;rw [HA.out] at he7;subst he7;have hx7':=Below.mono hx7 (Nat.le_trans hle.out (Below.size XB.out));have HID':=hid (HID.out.ext hx7);clear HID hx7;have HID:=HID';clear HID';have XB':=hid (Below.trans (Hid.out XB) (hx7'));clear XB;have XB:=XB';clear XB') | (go_at_call 147;(with_reducible refine (digit_any z _).mono ?_);rintro e w8 ⟨he8,hx8⟩;rw [HB.out] at he8;subst he8;have hx8':=Below.mono hx8 (Nat.le_trans hle.out (Below.size XB.out));have HID':=hid (HID.out.ext hx8);clear HID hx8;have HID:=HID';clear HID';have XB':=hid (Below.trans (Hid.out XB) (hx8'));clear XB;have XB:=XB';clear XB') | (go_at_call 93;(with_reducible refine (writeByte_any q HID.out (by omega)).mono ?_);rintro e w9 ⟨rfl,hi9,hx9⟩;have HI9:=hid hi9;clear hi9;have XB':=hid (Below.trans (Hid.out XB) (hx9));clear XB;have XB:=XB';clear XB'));refine hK _ _ (by first | assumption | exact Below.refl _ _ | exact Below.mono (Ext.alloc _ _) (Hid.out HSW) | exact Below.setCell (p:=⟨_,_,_⟩) (Below.refl _ _) (Nat.le_refl _) _) ?_;clear hK K;try simp only [Act.put,evp]))
          refine walksB_done ?_
          go_wp2
          exact ⟨⟨j + 3,acc ++ [q],by omega,by go_num,by simp;omega,HI9,HH,Below.trans HXD.out XB.out⟩,by simp [intOf];omega⟩
       ·have hl2' : ¬ (j : Int) + 2 < (s.size : Int):=by omega
        have HF : Hid (readF [] (bys s) = none):=by show _ = _;rw [← HR.out,hd.out,hd1,h92,show (bys s).drop (j + 1 + 1) = [] from drop_none (by omega),readF_hex1 hsp]
        clear h92 hsp hd1
        go_wp2_with (first
         | (go_at_call 125;(with_reducible refine (indexbyte_no _ _ y (u8_back _) _ HM.out).mono ?_);rintro e w4 ⟨rfl,rfl⟩))
        go_ret2
        exact ⟨by rw [HV.out,HF.out];rfl,HX.out⟩
     ·have hl1' : ¬ (j : Int) + 1 < (s.size : Int):=by omega
      have hl2' : ¬ (j : Int) + 2 < (s.size : Int):=by omega
      have HF : Hid (readF [] (bys s) = none):=by show _ = _;rw [← HR.out,hd.out,h92,show (bys s).drop (j + 1) = [] from drop_none (by omega),readF_end]
      clear h92
      go_wp2
      go_ret2
      exact ⟨by rw [HV.out,HF.out];rfl,HX.out⟩
    ·have t92 : ((x.toNat : Int) != 92) = true:=by
      have h : ((x.toNat : Int) == 92) = false:=byte_isnt (k:=92) h92
      rw [bne,h];rfl
     have hP:=readF_plain (acc:=acc) (t:=(bys s).drop (j + 1)) h92
     by_cases h0 : x = 0
     ·have t0 : ((x.toNat : Int) == 0) = true:=byte_is (k:=0) (by decide) h0
      have HF : Hid (readF [] (bys s) = none):=by show _ = _;rw [← HR.out,hd.out,hP,if_pos (by rw [h0];rfl)]
      clear h92 h0 hP
      go_wp2
      go_ret2
      exact ⟨by rw [HV.out,HF.out];rfl,HX.out⟩
     ·have t0 : ((x.toNat : Int) == 0) = false:=byte_isnt (k:=0) h0
      cases hsp : specB x with
      | true=>
       have HM:=hid ((mem_spec x).1 hsp)
       have HF : Hid (readF [] (bys s) = none):=by show _ = _;rw [← HR.out,hd.out,hP,if_pos (by rw [hsp];simp)]
       clear h92 h0 hP hsp
       go_wp2_with (first
        | (go_at_call 125;(with_reducible refine (indexbyte_yes _ _ x (u8_back _) _ HM.out).mono ?_);rintro e w4 ⟨⟨i,rfl⟩,rfl⟩;have hi0 : 0 ≤ (i : Int):=by omega))
       go_ret2
       exact ⟨by rw [HV.out,HF.out];rfl,HX.out⟩
      | false=>
       have HM : Hid (x ∉ ([44,43,34,92,60,62,59] : List UInt8)):=fun h=>by have:=(mem_spec x).2 h;rw [hsp] at this;cases this
       have hemp : ((bys s).drop (j + 1)).isEmpty = decide (j + 1 = s.size):=by
        rw [Bool.eq_iff_iff,List.isEmpty_iff,decide_eq_true_eq,List.drop_eq_nil_iff,bys_len]
        omega
       by_cases h32 : x = 32 ∧ j + 1 = s.size
       ·have t32 : ((x.toNat : Int) == 32) = true:=byte_is (k:=32) (by decide) h32.1
        have te : ((j : Int) == (s.size : Int) - 1) = true:=by rw [beq_iff_eq];omega
        have HF : Hid (readF [] (bys s) = none):=by show _ = _;rw [← HR.out,hd.out,hP,if_pos (by rw [hemp,h32.1,decide_eq_true h32.2];rfl)]
        clear h92 h0 hP hsp hemp h32
        go_wp2_with (first
         | (go_at_call 125;(with_reducible refine (indexbyte_no _ _ x (u8_back _) _ HM.out).mono ?_);rintro e w4 ⟨rfl,rfl⟩))
        go_ret2
        exact ⟨by rw [HV.out,HF.out];rfl,HX.out⟩
       ·have HH : Hid (readF (acc ++ [x]) ((bys s).drop (j + 1)) = readF [] (bys s)):=by
         show _ = _
         rw [← HR.out,hd.out,hP,if_neg]
         rw [hemp,hsp]
         simp [h0]
         exact fun e=>fun e2=>h32 ⟨e,e2⟩
        have t32 : ((x.toNat : Int) == 32) = false ∨ (((x.toNat : Int) == 32) = true ∧ ((j : Int) == (s.size : Int) - 1) = false):=by
         by_cases h3 : x = 32
         ·right
          refine ⟨byte_is (k:=32) (by decide) h3,?_⟩
          rw [beq_eq_false_iff_ne]
          intro e
          exact h32 ⟨h3,by omega⟩
         ·exact .inl (byte_isnt (k:=32) h3)
        clear h92 h0 hP hsp hemp h32
        rcases t32 with t32 | ⟨t32,te⟩
        all_goals
         go_wp2_with (first
          | (go_at_call 125;(with_reducible refine (indexbyte_no _ _ x (u8_back _) _ HM.out).mono ?_);rintro e w4 ⟨rfl,rfl⟩)
          | (go_at_call 93;(with_reducible refine (writeByte_any x HI.out (by omega)).mono ?_);rintro e w5 ⟨rfl,hi5,hx5⟩;have HI5:=hid hi5;have HX5:=hid hx5;clear hi5 hx5))
         exact ⟨⟨j + 1,acc ++ [x],by omega,by go_num,by simp;omega,HI5,HH,Below.trans HX.out HX5.out⟩,by simp [intOf];omega⟩
   ·obtain rfl : j = s.size:=by omega
    have HF : Hid (readF [] (bys s) = some acc):=by show _ = _;rw [← HR.out,drop_none (Nat.le_refl _)];rfl
    go_wp2_with (go_at_call 69;(with_reducible refine (string_any HI.out).mono ?_);rintro e w4 ⟨rfl,hx4⟩;have HX4:=hid hx4;clear hx4)
    go_ret2
    exact ⟨by rw [HV.out,HF.out];rfl,Below.trans HX.out HX4.out⟩
 ·have e1:=emp_nb hz
  have hsz : 0 < s.size:=by omega
  obtain ⟨y,hy⟩:=at_some hsz
  have gy:=bys_get hy hsz
  have hhd : (bys s).head? = some y:=by rw [List.head?_eq_getElem?,hy]
  clear hy
  by_cases h32 : y = 32
  ·have t32 : ((y.toNat : Int) == 32) = true:=byte_is (k:=32) (by decide) h32
   have HV : Hid (valueB (bys s) = none):=by show _ = _;unfold valueB;rw [hhd,h32,if_pos (.inl rfl)]
   clear hhd hz h32
   go_enter Tryz.func121,Tryz.ntmps121
   go_wp2
   go_ret2
   exact ⟨by rw [HV.out];rfl,Ext.alloc _ _⟩
  ·have t32 : ((y.toNat : Int) == 32) = false:=byte_isnt (k:=32) h32
   by_cases h35 : y = 35
   ·have t35 : ((y.toNat : Int) == 35) = true:=byte_is (k:=35) (by decide) h35
    have HV : Hid (valueB (bys s) = none):=by show _ = _;unfold valueB;rw [hhd,h35,if_pos (.inr rfl)]
    clear hhd hz h32 h35
    go_enter Tryz.func121,Tryz.ntmps121
    go_wp2
    go_ret2
    exact ⟨by rw [HV.out];rfl,Ext.alloc _ _⟩
   ·have t35 : ((y.toNat : Int) == 35) = false:=byte_isnt (k:=35) h35
    have HV : Hid (valueB (bys s) = readF [] (bys s)):=by
     show _ = _
     unfold valueB
     rw [hhd,if_neg]
     rintro (h | h)
     ·injection h with h;exact h32 h
     ·injection h with h;exact h35 h
    clear hhd hz h32 h35
    go_enter Tryz.func121,Tryz.ntmps121
    go_wp2
    go_wp2
    go_loopw [5] (fun i wr=>∃ (j : Nat) (acc : List UInt8),j ≤ s.size ∧ i = .int .i64 j ∧ acc.length ≤ j ∧ Hid (IsB w.heap.size w.heap.size acc wr) ∧ Hid (readF acc ((bys s).drop j) = readF [] (bys s)) ∧ Hid (Below w.heap.size w wr)) (fun i _=>s.size - (intOf i).toNat)
    case atStart=>exact ⟨0,[],by omega,rfl,by simp,isB_new w,by simp [Hid],Ext.alloc _ _⟩
    case round=>
     obtain ⟨j,acc,hj,rfl,hacc,HI,HR,HX⟩:=hrel
     by_cases hlt : j < s.size
     ·obtain ⟨x,hx⟩:=at_some hlt
      have gx:=bys_get hx hlt
      have hd:=hid (drop_at hx)
      clear hx
      by_cases h92 : x = 92
      ·have t92 : ((x.toNat : Int) != 92) = false:=by rw [h92];rfl
       by_cases hl1 : j + 1 < s.size
       ·have hl1' : (j : Int) + 1 < (s.size : Int):=by omega
        obtain ⟨y,hy⟩:=at_some hl1
        have gy:=bys_get hy hl1
        have hd1:=drop_at hy
        clear hy
        cases hsp : spec2 y with
        | true=>
         have HM:=hid ((mem_spec2 y).1 hsp)
         have HH : Hid (readF (acc ++ [y]) ((bys s).drop (j + 1 + 1)) = readF [] (bys s)):=by show _ = _;rw [← HR.out,hd.out,hd1,h92,readF_spec hsp]
         clear h92 hsp hd1
         go_wp2_with (first
          | (go_at_call 125;(with_reducible refine (indexbyte_yes _ _ y (u8_back _) _ HM.out).mono ?_);rintro e w4 ⟨⟨i,rfl⟩,rfl⟩;have hi0 : 0 ≤ (i : Int):=by omega)
          | (go_at_call 93;(with_reducible refine (writeByte_any y HI.out (by omega)).mono ?_);rintro e w5 ⟨rfl,hi5,hx5⟩;have HI5:=hid hi5;have HX5:=hid hx5;clear hi5 hx5))
         exact ⟨⟨j + 2,acc ++ [y],by omega,by go_num,by simp;omega,HI5,HH,Below.trans HX.out HX5.out⟩,by simp [intOf];omega⟩
        | false=>
         have HM : Hid (y ∉ ([44,43,34,92,60,62,59,35,61,32] : List UInt8)):=fun h=>by have:=(mem_spec2 y).2 h;rw [hsp] at this;cases this
         by_cases hl2 : j + 2 < s.size
         ·have hl2' : (j : Int) + 2 < (s.size : Int):=by omega
          obtain ⟨z,hz⟩:=at_some hl2
          have gz:=bys_get hz hl2
          have hd2:=drop_at hz
          clear hz
          have hH:=readF_hex (acc:=acc) (t:=(bys s).drop (j + 2 + 1)) (d:=y) (e:=z) hsp
          by_cases hy0 : hexZ y < 0
          ·have HF : Hid (readF [] (bys s) = none):=by show _ = _;rw [← HR.out,hd.out,hd1,hd2,h92,hH,hexZ_neg hy0]
           clear h92 hsp hd1 hd2 hH
           go_wp2_with (first
            | (go_at_call 125;(with_reducible refine (indexbyte_no _ _ y (u8_back _) _ HM.out).mono ?_);rintro e w4 ⟨rfl,rfl⟩)
            | (go_at_call 147;(with_reducible refine (digit_any y _).mono ?_);rintro e w5 ⟨rfl,hx5⟩;have HX5:=hid hx5;clear hx5))
           go_ret2
           exact ⟨by rw [HV.out,HF.out];rfl,Below.trans HX.out (Below.mono HX5.out HI.out.le)⟩
          ·obtain ⟨a,ha1,ha2,ha3⟩:=hexZ_pos hy0
           by_cases hz0 : hexZ z < 0
           ·have HF : Hid (readF [] (bys s) = none):=by show _ = _;rw [← HR.out,hd.out,hd1,hd2,h92,hH,ha1,hexZ_neg hz0]
            clear h92 hsp hd1 hd2 hH ha1 ha2 ha3
            go_wp2_with (first
             | (go_at_call 125;(with_reducible refine (indexbyte_no _ _ y (u8_back _) _ HM.out).mono ?_);rintro e w4 ⟨rfl,rfl⟩)
             | (go_at_call 147;(with_reducible refine (digit_any y _).mono ?_);rintro e w5 ⟨rfl,hx5⟩;have HX5:=hid hx5;clear hx5)
             | (go_at_call 147;(with_reducible refine (digit_any z _).mono ?_);rintro e w6 ⟨rfl,hx6⟩;have HX6:=hid hx6;clear hx6))
            go_ret2
            exact ⟨by rw [HV.out,HF.out];rfl,Below.trans HX.out (Below.mono (HX5.out.trans HX6.out) HI.out.le)⟩
           ·obtain ⟨b,hb1,hb2,hb3⟩:=hexZ_pos hz0
            have HH : Hid (readF (acc ++ [UInt8.ofNat (16 * a + b)]) ((bys s).drop (j + 2 + 1)) = readF [] (bys s)):=by show _ = _;rw [← HR.out,hd.out,hd1,hd2,h92,hH,ha1,hb1]
            have HA:=hid ha2
            have HB:=hid hb2
            obtain ⟨q,hq⟩ : ∃ q,q = UInt8.ofNat (16 * a + b):=⟨_,rfl⟩
            rw [← hq] at HH
            have hov : bits BinOp.or IntKind.i64 ((a : Int) * 16) (b : Int) % 256 = (q.toNat : Int):=by
             have h1:=hex_or a ha3 b hb3
             rw [Int.natCast_mul,Int.mul_comm] at h1
             have h2 : (((16 : Nat) : Int)) = 16:=rfl
             rw [h2] at h1
             rw [h1,hq,UInt8.toNat_ofNat']
             omega
            clear hq
            have ta : ¬ (a : Int) < 0:=by omega
            have tb : ¬ (b : Int) < 0:=by omega
            clear h92 hsp hd1 hd2 hH ha1 hb1 hy0 hz0 ha2 hb2
            go_wp2_with (first
             | (go_at_call 125;(with_reducible refine (indexbyte_no _ _ y (u8_back _) _ HM.out).mono ?_);rintro e w4 ⟨rfl,rfl⟩)
             | (go_at_call 147;(with_reducible refine (digit_any y _).mono ?_);rintro e w5 ⟨he5,hx5⟩;rw [HA.out] at he5;subst he5;have HX5:=hid hx5;clear hx5)
             | (go_at_call 147;(with_reducible refine (digit_any z _).mono ?_);rintro e w6 ⟨he6,hx6⟩;rw [HB.out] at he6;subst he6;have HX6:=hid hx6;clear hx6))
            have HI6:=hid (HI.out.ext (HX5.out.trans HX6.out))
            have HX0:=hid (Below.trans HX.out (Below.mono (HX5.out.trans HX6.out) HI.out.le))
            refine wp_region_planB w.heap.size (.read 0 (.read 1 (.read 2 (.read 3 (.read 6 (.read 7 (.read 8 (.read 9 (.main 4 (.read 5 (.main 10 (.read 11 (.read 12 (.main 13 .done)))))))))))))) (by kernel_rfl) (by kernel_rfl) ?_
            intro wD hxD
            have XB : Hid (Below w.heap.size wD wD):=Below.refl _ _
            have HID:=hid (HI6.out.ext hxD)
            have HXD:=hid (Below.trans HX0.out (Below.mono hxD HI6.out.le))
            have hle:=hid HID.out.le
            have p1 : 0 ≤ (j : Int) + 1:=by omega
            have p2 : 0 ≤ (j : Int) + 2:=by omega
            repeat' (first
             | ((first | refine walksB_move rfl rfl ?_ | refine walksB_assign rfl rfl ?_ | refine walksB_skip rfl rfl ?_);simp only [Act.put,Act.eval,evs])
             | (refine walksB_unwanted rfl rfl ?_;simp only [Act.put,evp])
             | (refine walksB_read (v:=?_) rfl rfl (fun w' hE=>?_) ?_;rotate_left 1;(· ((try (have hEx:=Below.trans (Hid.out XB) hE));go_simp;(try go_bits);with_reducible rfl));simp only [Act.put,evp])
             | (refine walksB_alt ?_ ?_)
             | (refine walksB_main rfl rfl (fun K hK=>?_);go_wp2_with (first | (go_at_call 147;(with_reducible refine (digit_any y _).mono ?_);rintro e w7 ⟨he7,hx7⟩;rw [HA.out] at he7;subst he7;have hx7':=Below.mono hx7 (Nat.le_trans hle.out (Below.size XB.out));have HID':=hid (HID.out.ext hx7);clear HID hx7;have HID:=HID';clear HID';have XB':=hid (Below.trans (Hid.out XB) (hx7'));clear XB;have XB:=XB';clear XB') | (go_at_call 147;(with_reducible refine (digit_any z _).mono ?_);rintro e w8 ⟨he8,hx8⟩;rw [HB.out] at he8;subst he8;have hx8':=Below.mono hx8 (Nat.le_trans hle.out (Below.size XB.out));have HID':=hid (HID.out.ext hx8);clear HID hx8;have HID:=HID';clear HID';have XB':=hid (Below.trans (Hid.out XB) (hx8'));clear XB;have XB:=XB';clear XB') | (go_at_call 93;(with_reducible refine (writeByte_any q HID.out (by omega)).mono ?_);rintro e w9 ⟨rfl,hi9,hx9⟩;have HI9:=hid hi9;clear hi9;have XB':=hid (Below.trans (Hid.out XB) (hx9));clear XB;have XB:=XB';clear XB'));refine hK _ _ (by first | assumption | exact Below.refl _ _ | exact Below.mono (Ext.alloc _ _) (Hid.out HSW) | exact Below.setCell (p:=⟨_,_,_⟩) (Below.refl _ _) (Nat.le_refl _) _) ?_;clear hK K;try simp only [Act.put,evp]))
            refine walksB_done ?_
            go_wp2
            exact ⟨⟨j + 3,acc ++ [q],by omega,by go_num,by simp;omega,HI9,HH,Below.trans HXD.out XB.out⟩,by simp [intOf];omega⟩
         ·have hl2' : ¬ (j : Int) + 2 < (s.size : Int):=by omega
          have HF : Hid (readF [] (bys s) = none):=by show _ = _;rw [← HR.out,hd.out,hd1,h92,show (bys s).drop (j + 1 + 1) = [] from drop_none (by omega),readF_hex1 hsp]
          clear h92 hsp hd1
          go_wp2_with (first
           | (go_at_call 125;(with_reducible refine (indexbyte_no _ _ y (u8_back _) _ HM.out).mono ?_);rintro e w4 ⟨rfl,rfl⟩))
          go_ret2
          exact ⟨by rw [HV.out,HF.out];rfl,HX.out⟩
       ·have hl1' : ¬ (j : Int) + 1 < (s.size : Int):=by omega
        have hl2' : ¬ (j : Int) + 2 < (s.size : Int):=by omega
        have HF : Hid (readF [] (bys s) = none):=by show _ = _;rw [← HR.out,hd.out,h92,show (bys s).drop (j + 1) = [] from drop_none (by omega),readF_end]
        clear h92
        go_wp2
        go_ret2
        exact ⟨by rw [HV.out,HF.out];rfl,HX.out⟩
      ·have t92 : ((x.toNat : Int) != 92) = true:=by
        have h : ((x.toNat : Int) == 92) = false:=byte_isnt (k:=92) h92
        rw [bne,h];rfl
       have hP:=readF_plain (acc:=acc) (t:=(bys s).drop (j + 1)) h92
       by_cases h0 : x = 0
       ·have t0 : ((x.toNat : Int) == 0) = true:=byte_is (k:=0) (by decide) h0
        have HF : Hid (readF [] (bys s) = none):=by show _ = _;rw [← HR.out,hd.out,hP,if_pos (by rw [h0];rfl)]
        clear h92 h0 hP
        go_wp2
        go_ret2
        exact ⟨by rw [HV.out,HF.out];rfl,HX.out⟩
       ·have t0 : ((x.toNat : Int) == 0) = false:=byte_isnt (k:=0) h0
        cases hsp : specB x with
        | true=>
         have HM:=hid ((mem_spec x).1 hsp)
         have HF : Hid (readF [] (bys s) = none):=by show _ = _;rw [← HR.out,hd.out,hP,if_pos (by rw [hsp];simp)]
         clear h92 h0 hP hsp
         go_wp2_with (first
          | (go_at_call 125;(with_reducible refine (indexbyte_yes _ _ x (u8_back _) _ HM.out).mono ?_);rintro e w4 ⟨⟨i,rfl⟩,rfl⟩;have hi0 : 0 ≤ (i : Int):=by omega))
         go_ret2
         exact ⟨by rw [HV.out,HF.out];rfl,HX.out⟩
        | false=>
         have HM : Hid (x ∉ ([44,43,34,92,60,62,59] : List UInt8)):=fun h=>by have:=(mem_spec x).2 h;rw [hsp] at this;cases this
         have hemp : ((bys s).drop (j + 1)).isEmpty = decide (j + 1 = s.size):=by
          rw [Bool.eq_iff_iff,List.isEmpty_iff,decide_eq_true_eq,List.drop_eq_nil_iff,bys_len]
          omega
         by_cases h32 : x = 32 ∧ j + 1 = s.size
         ·have t32 : ((x.toNat : Int) == 32) = true:=byte_is (k:=32) (by decide) h32.1
          have te : ((j : Int) == (s.size : Int) - 1) = true:=by rw [beq_iff_eq];omega
          have HF : Hid (readF [] (bys s) = none):=by show _ = _;rw [← HR.out,hd.out,hP,if_pos (by rw [hemp,h32.1,decide_eq_true h32.2];rfl)]
          clear h92 h0 hP hsp hemp h32
          go_wp2_with (first
           | (go_at_call 125;(with_reducible refine (indexbyte_no _ _ x (u8_back _) _ HM.out).mono ?_);rintro e w4 ⟨rfl,rfl⟩))
          go_ret2
          exact ⟨by rw [HV.out,HF.out];rfl,HX.out⟩
         ·have HH : Hid (readF (acc ++ [x]) ((bys s).drop (j + 1)) = readF [] (bys s)):=by
           show _ = _
           rw [← HR.out,hd.out,hP,if_neg]
           rw [hemp,hsp]
           simp [h0]
           exact fun e=>fun e2=>h32 ⟨e,e2⟩
          have t32 : ((x.toNat : Int) == 32) = false ∨ (((x.toNat : Int) == 32) = true ∧ ((j : Int) == (s.size : Int) - 1) = false):=by
           by_cases h3 : x = 32
           ·right
            refine ⟨byte_is (k:=32) (by decide) h3,?_⟩
            rw [beq_eq_false_iff_ne]
            intro e
            exact h32 ⟨h3,by omega⟩
           ·exact .inl (byte_isnt (k:=32) h3)
          clear h92 h0 hP hsp hemp h32
          rcases t32 with t32 | ⟨t32,te⟩
          all_goals
           go_wp2_with (first
            | (go_at_call 125;(with_reducible refine (indexbyte_no _ _ x (u8_back _) _ HM.out).mono ?_);rintro e w4 ⟨rfl,rfl⟩)
            | (go_at_call 93;(with_reducible refine (writeByte_any x HI.out (by omega)).mono ?_);rintro e w5 ⟨rfl,hi5,hx5⟩;have HI5:=hid hi5;have HX5:=hid hx5;clear hi5 hx5))
           exact ⟨⟨j + 1,acc ++ [x],by omega,by go_num,by simp;omega,HI5,HH,Below.trans HX.out HX5.out⟩,by simp [intOf];omega⟩
     ·obtain rfl : j = s.size:=by omega
      have HF : Hid (readF [] (bys s) = some acc):=by show _ = _;rw [← HR.out,drop_none (Nat.le_refl _)];rfl
      go_wp2_with (go_at_call 69;(with_reducible refine (string_any HI.out).mono ?_);rintro e w4 ⟨rfl,hx4⟩;have HX4:=hid hx4;clear hx4)
      go_ret2
      exact ⟨by rw [HV.out,HF.out];rfl,Below.trans HX.out HX4.out⟩
theorem head_drop {s : ByteArray} {x : UInt8} (h : (bys s)[0]? = some x) : (bys s).head? = some x:=by rw [List.head?_eq_getElem?,h]
theorem lit_char_wp {w : World} {o : Oper} {a : Act} {K : Act → World → Prop} {Q : Exit → Act → World → Prop} (x : Operand) (ho : o.op = .buildSlice 126 1 #[(0,x)]) (q : UInt8) (hx : a.eval x = .int .u8 (q.toNat : Int))
 (h : ∀ A w',Ext w w' → Sl w' A 1 1 [q] → K (a.put o.dst (.slice A 1 1)) w') : o.wp Tryz.prog a w K Q:=
 lit1_wp x ho (q.toNat : Int) hx ⟨by omega,by have:=q.toNat_lt;omega⟩ fun A w' h1 h2=>h A w' h1 (by rw [Int.toNat_natCast,UInt8.ofNat_toNat] at h2;exact h2)
theorem read_any (s : ByteArray) (w : World) (hs : s.size ≤ 4000000) : Calls Tryz.prog 129 #[.string s] w (ValSays w (valueB (bys s))):=by
 have Hs:=hid hs
 go_enter Tryz.func129,Tryz.ntmps129
 go_wp2
 go_loopw [4,5] (fun v i wr=>∃ (j : Nat) (acc : List UInt8),j ≤ s.size ∧ i = .int .i64 j ∧ acc.length ≤ j ∧ Hid (GrowB w wr v acc) ∧ Hid ((j = 0 ∧ acc = []) ∨ (0 < j ∧ readF acc ((bys s).drop j) = valueB (bys s)))) (fun _ i _=>s.size - (intOf i).toNat)
 case atStart=>exact ⟨0,[],by omega,rfl,by simp,GrowB.nil (Ext.refl _),.inl ⟨rfl,rfl⟩⟩
 case round=>
  obtain ⟨j,acc,hj,rfl,hacc,HG,HR0⟩:=hrel
  by_cases hlt : j < s.size
  ·obtain ⟨x,hx⟩:=at_some hlt
   have gx:=bys_get hx hlt
   have hd:=hid (drop_at hx)
   have t0j : ((j : Int) == 0) = decide (j = 0):=by rw [Bool.eq_iff_iff,beq_iff_eq,decide_eq_true_eq];omega
   by_cases hbad : j = 0 ∧ (x = 32 ∨ x = 35)
   ·have HV : Hid (valueB (bys s) = none):=by
     show _ = _
     unfold valueB
     rw [head_drop (by rw [← hbad.1];exact hx),if_pos]
     rcases hbad.2 with h | h
     ·exact .inl (by rw [h])
     ·exact .inr (by rw [h])
    obtain ⟨h0,hc⟩:=hbad
    have tj : ((j : Int) == 0) = true:=by rw [h0];rfl
    have HSP : Hid (specB x = false):=by rcases hc with rfl | rfl <;> rfl
    have t92 : ((x.toNat : Int) != 92) = true:=by rcases hc with rfl | rfl <;> rfl
    have t0 : ((x.toNat : Int) == 0) = false:=by rcases hc with rfl | rfl <;> rfl
    have tc : ((x.toNat : Int) == 32) = true ∨ (((x.toNat : Int) == 32) = false ∧ ((x.toNat : Int) == 35) = true):=by rcases hc with rfl | rfl;exact .inl rfl;exact .inr ⟨rfl,rfl⟩
    clear hx t0j h0 hc
    rcases tc with tc | ⟨tc,td⟩
    all_goals
     go_wp2_with (first
      | (go_at_call 102;(with_reducible refine (special_any x _).mono ?_);rintro e w4 ⟨he4,rfl⟩;rw [HSP.out] at he4;subst he4))
     go_ret2
     exact ⟨by rw [HV.out];rfl,HG.out.ext⟩
   ·have HR : Hid (readF acc ((bys s).drop j) = valueB (bys s)):=by
     rcases HR0.out with ⟨h0,ha⟩ | ⟨_,h⟩
     ·show _ = _
      subst ha
      rw [h0,List.drop_zero]
      unfold valueB
      rw [head_drop (by rw [← h0];exact hx),if_neg]
      rintro (h | h)
      ·injection h with h;exact hbad ⟨h0,.inl h⟩
      ·injection h with h;exact hbad ⟨h0,.inr h⟩
     ·exact h
    clear HR0 hx
    by_cases h92 : x = 92
    ·have t92 : ((x.toNat : Int) != 92) = false:=by rw [h92];rfl
     clear hbad t0j
     by_cases hl1 : j + 1 < s.size
     ·have hl1' : (j : Int) + 1 < (s.size : Int):=by omega
      have p1 : 0 ≤ (j : Int) + 1:=by omega
      obtain ⟨y,hy⟩:=at_some hl1
      have gy:=bys_get hy hl1
      have hd1:=drop_at hy
      clear hy
      have hs2 : spec2 y = (specB y || y == 35 || y == 61 || y == 32):=rfl
      cases hsp : spec2 y with
      | true=>
       have HH : Hid (readF (acc ++ [y]) ((bys s).drop (j + 1 + 1)) = valueB (bys s)):=by show _ = _;rw [← HR.out,hd.out,hd1,h92,readF_spec hsp]
       have hq : specB y = true ∨ (specB y = false ∧ ((y.toNat : Int) == 35) = true) ∨ (specB y = false ∧ ((y.toNat : Int) == 35) = false ∧ ((y.toNat : Int) == 61) = true) ∨ (specB y = false ∧ ((y.toNat : Int) == 35) = false ∧ ((y.toNat : Int) == 61) = false ∧ ((y.toNat : Int) == 32) = true):=by
        rw [hs2] at hsp
        cases hb : specB y with
        | true=>exact .inl rfl
        | false=>
         rw [hb] at hsp
         by_cases h35 : y = 35
         ·exact .inr (.inl ⟨rfl,byte_is (k:=35) (by decide) h35⟩)
         ·by_cases h61 : y = 61
          ·exact .inr (.inr (.inl ⟨rfl,byte_isnt (k:=35) h35,byte_is (k:=61) (by decide) h61⟩))
          ·refine .inr (.inr (.inr ⟨rfl,byte_isnt (k:=35) h35,byte_isnt (k:=61) h61,byte_is (k:=32) (by decide) ?_⟩))
           simpa [h35,h61] using hsp
       clear h92 hsp hd1 hs2
       rcases hq with hq | ⟨hq,q1⟩ | ⟨hq,q1,q2⟩ | ⟨hq,q1,q2,q3⟩
       all_goals
        have HSY:=hid hq
        clear hq
        go_wp2_with (first
         | (go_at_call 102;(with_reducible refine (special_any y _).mono ?_);rintro e w4 ⟨he4,rfl⟩;rw [HSY.out] at he4;subst he4)
         | (at_builtin;refine append_grow rfl _ _ rfl _ _ rfl (HG.out.later (Ext.alloc _ _)) _ 1 1 [y] rfl (sl_char _ y) (by omega) ?_;intro v' w5 hg5;have HG5:=hid hg5;clear hg5))
        exact ⟨⟨j + 2,acc ++ [y],by omega,by go_num,by simp;omega,HG5,.inr ⟨by omega,HH⟩⟩,by simp [intOf];omega⟩
      | false=>
       have hq : specB y = false ∧ ((y.toNat : Int) == 35) = false ∧ ((y.toNat : Int) == 61) = false ∧ ((y.toNat : Int) == 32) = false:=by
        rw [hs2] at hsp
        simp only [Bool.or_eq_false_iff,beq_eq_false_iff_ne] at hsp
        exact ⟨hsp.1.1.1,byte_isnt (k:=35) hsp.1.1.2,byte_isnt (k:=61) hsp.1.2,byte_isnt (k:=32) hsp.2⟩
       obtain ⟨hq,q1,q2,q3⟩:=hq
       have HSY:=hid hq
       clear hq hs2
       by_cases hl2 : j + 2 < s.size
       ·have hl2' : (j : Int) + 2 < (s.size : Int):=by omega
        have p2 : 0 ≤ (j : Int) + 2:=by omega
        obtain ⟨z,hz⟩:=at_some hl2
        have gz:=bys_get hz hl2
        have hd2:=drop_at hz
        clear hz
        have hH:=readF_hex (acc:=acc) (t:=(bys s).drop (j + 2 + 1)) (d:=y) (e:=z) hsp
        by_cases hy0 : hexZ y < 0
        ·have HF : Hid (valueB (bys s) = none):=by show _ = _;rw [← HR.out,hd.out,hd1,hd2,h92,hH,hexZ_neg hy0]
         obtain ⟨u,hu⟩ : ∃ u,hexZ y = u:=⟨_,rfl⟩
         rw [hu] at hy0
         have HA:=hid hu
         clear h92 hsp hd1 hd2 hH hu
         go_wp2_with (first
          | (go_at_call 102;(with_reducible refine (special_any y _).mono ?_);rintro e w4 ⟨he4,rfl⟩;rw [HSY.out] at he4;subst he4)
          | (go_at_call 151;(with_reducible refine (hexz_any y _).mono ?_);rintro e w5 ⟨he5,rfl⟩;rw [HA.out] at he5;subst he5))
         go_ret2
         exact ⟨by rw [HF.out];rfl,HG.out.ext⟩
        ·obtain ⟨a,ha1,ha2,ha3⟩:=hexZ_pos hy0
         have HA:=hid ha2
         have ta : ¬ (a : Int) < 0:=by omega
         by_cases hz0 : hexZ z < 0
         ·have HF : Hid (valueB (bys s) = none):=by show _ = _;rw [← HR.out,hd.out,hd1,hd2,h92,hH,ha1,hexZ_neg hz0]
          obtain ⟨u,hu⟩ : ∃ u,hexZ z = u:=⟨_,rfl⟩
          rw [hu] at hz0
          have HB:=hid hu
          clear h92 hsp hd1 hd2 hH ha1 ha2 ha3 hy0 hu
          go_wp2_with (first
           | (go_at_call 102;(with_reducible refine (special_any y _).mono ?_);rintro e w4 ⟨he4,rfl⟩;rw [HSY.out] at he4;subst he4)
           | (go_at_call 151;(with_reducible refine (hexz_any y _).mono ?_);rintro e w5 ⟨he5,rfl⟩;rw [HA.out] at he5;subst he5)
           | (go_at_call 151;(with_reducible refine (hexz_any z _).mono ?_);rintro e w5 ⟨he5,rfl⟩;rw [HB.out] at he5;subst he5))
          go_ret2
          exact ⟨by rw [HF.out];rfl,HG.out.ext⟩
         ·obtain ⟨b,hb1,hb2,hb3⟩:=hexZ_pos hz0
          have HB:=hid hb2
          have tb : ¬ (b : Int) < 0:=by omega
          obtain ⟨q,hq⟩ : ∃ q,q = UInt8.ofNat (16 * a + b):=⟨_,rfl⟩
          have HH : Hid (readF (acc ++ [q]) ((bys s).drop (j + 2 + 1)) = valueB (bys s)):=by show _ = _;rw [← HR.out,hd.out,hd1,hd2,h92,hH,ha1,hb1,hq]
          have hov : 16 * (a : Int) + (b : Int) = (q.toNat : Int):=by
           rw [hq,UInt8.toNat_ofNat']
           omega
          clear hq
          clear h92 hsp hd1 hd2 hH ha1 hb1 hy0 hz0 ha2 hb2
          go_wp2_with (first
           | (go_at_call 102;(with_reducible refine (special_any y _).mono ?_);rintro e w4 ⟨he4,rfl⟩;rw [HSY.out] at he4;subst he4)
           | (go_at_call 151;(with_reducible refine (hexz_any y _).mono ?_);rintro e w5 ⟨he5,rfl⟩;rw [HA.out] at he5;subst he5)
           | (go_at_call 151;(with_reducible refine (hexz_any z _).mono ?_);rintro e w5 ⟨he5,rfl⟩;rw [HB.out] at he5;subst he5))
          refine wp_region_planB w.heap.size (.read 0 (.read 1 (.read 2 (.read 3 (.read 4 (.read 7 (.read 8 (.read 9 (.read 10 (.main 5 (.read 6 (.main 11 (.read 12 (.read 13 (.main 14 (.main 15 (.read 16 .done))))))))))))))))) (by kernel_rfl) (by kernel_rfl) ?_
          intro wD hxD
          have XB : Hid (Below w.heap.size wD wD):=Below.refl _ _
          have HGD:=hid (HG.out.later hxD)
          repeat' (first
           | ((first | refine walksB_move rfl rfl ?_ | refine walksB_assign rfl rfl ?_ | refine walksB_skip rfl rfl ?_);simp only [Act.put,Act.eval,evs])
           | (refine walksB_unwanted rfl rfl ?_;simp only [Act.put,evp])
           | (refine walksB_read (v:=?_) rfl rfl (fun w' hE=>?_) ?_;rotate_left 1;(· ((try (have hEx:=Below.trans (Hid.out XB) hE));go_simp;(try go_bits);with_reducible rfl));simp only [Act.put,evp])
           | (refine walksB_main rfl rfl (fun K hK=>?_);(first | (refine lit_char_wp _ rfl q (by first | rfl | exact congrArg (Value.int .u8) hov) ?_;intro A8 w8 hx8 hs8;have hx8':=Below.mono hx8 (ext_sz HGD.out.ext);have HGE:=hid (HGD.out.later hx8);have HS8:=hid hs8;clear hx8 hs8;have XB':=hid (Below.trans (Hid.out XB) (hx8'));clear XB;have XB:=XB';clear XB') | (refine append_grow_wp _ _ rfl _ acc rfl HGE.out _ 1 1 [q] rfl HS8.out (by omega) ?_;intro v' w9 hg9 hb9;have HG9:=hid hg9;clear hg9;have XB':=hid (Below.trans (Hid.out XB) (hb9));clear XB;have XB:=XB';clear XB'));refine hK _ _ (by first | assumption | exact Below.refl _ _ | exact Below.mono (Ext.alloc _ _) (Hid.out HSW) | exact Below.setCell (p:=⟨_,_,_⟩) (Below.refl _ _) (Nat.le_refl _) _) ?_;clear hK K;try simp only [Act.put,evp])
           | (refine walksB_alt ?_ ?_)
           | (refine walksB_main rfl rfl (fun K hK=>?_);go_wp2_with (first | (go_at_call 151;(with_reducible refine (hexz_any y _).mono ?_);rintro e w5 ⟨he5,rfl⟩;rw [HA.out] at he5;subst he5)| (go_at_call 151;(with_reducible refine (hexz_any z _).mono ?_);rintro e w5 ⟨he5,rfl⟩;rw [HB.out] at he5;subst he5));refine hK _ _ (by first | assumption | exact Below.refl _ _ | exact Below.mono (Ext.alloc _ _) (Hid.out HSW) | exact Below.setCell (p:=⟨_,_,_⟩) (Below.refl _ _) (Nat.le_refl _) _) ?_;clear hK K;try simp only [Act.put,evp]))
          refine walksB_done ?_
          go_wp2
          exact ⟨⟨j + 3,acc ++ [q],by omega,by go_num,by simp;omega,HG9,.inr ⟨by omega,HH⟩⟩,by simp [intOf];omega⟩
       ·have hl2' : ¬ (j : Int) + 2 < (s.size : Int):=by omega
        have HF : Hid (valueB (bys s) = none):=by show _ = _;rw [← HR.out,hd.out,hd1,h92,show (bys s).drop (j + 1 + 1) = [] from drop_none (by omega),readF_hex1 hsp]
        clear h92 hsp hd1
        go_wp2_with (first
         | (go_at_call 102;(with_reducible refine (special_any y _).mono ?_);rintro e w4 ⟨he4,rfl⟩;rw [HSY.out] at he4;subst he4))
        go_ret2
        exact ⟨by rw [HF.out];rfl,HG.out.ext⟩
     ·have hl1' : ¬ (j : Int) + 1 < (s.size : Int):=by omega
      have hl2' : ¬ (j : Int) + 2 < (s.size : Int):=by omega
      have HF : Hid (valueB (bys s) = none):=by show _ = _;rw [← HR.out,hd.out,h92,show (bys s).drop (j + 1) = [] from drop_none (by omega),readF_end]
      clear h92
      go_wp2
      go_ret2
      exact ⟨by rw [HF.out];rfl,HG.out.ext⟩
    ·have t92 : ((x.toNat : Int) != 92) = true:=by
      have h : ((x.toNat : Int) == 92) = false:=byte_isnt (k:=92) h92
      rw [bne,h];rfl
     have hP:=readF_plain (acc:=acc) (t:=(bys s).drop (j + 1)) h92
     cases hsp : specB x with
     | true=>
      have HSP:=hid hsp
      have HF : Hid (valueB (bys s) = none):=by show _ = _;rw [← HR.out,hd.out,hP,if_pos (by rw [hsp];simp)]
      clear h92 hP hsp hbad t0j
      go_wp2_with (first
       | (go_at_call 102;(with_reducible refine (special_any x _).mono ?_);rintro e w4 ⟨he4,rfl⟩;rw [HSP.out] at he4;subst he4))
      go_ret2
      exact ⟨by rw [HF.out];rfl,HG.out.ext⟩
     | false=>
      have HSP:=hid hsp
      by_cases h0 : x = 0
      ·have t0 : ((x.toNat : Int) == 0) = true:=byte_is (k:=0) (by decide) h0
       have HF : Hid (valueB (bys s) = none):=by show _ = _;rw [← HR.out,hd.out,hP,if_pos (by rw [h0];rfl)]
       clear h92 h0 hP hsp hbad t0j
       go_wp2_with (first
        | (go_at_call 102;(with_reducible refine (special_any x _).mono ?_);rintro e w4 ⟨he4,rfl⟩;rw [HSP.out] at he4;subst he4))
       go_ret2
       exact ⟨by rw [HF.out];rfl,HG.out.ext⟩
      ·have t0 : ((x.toNat : Int) == 0) = false:=byte_isnt (k:=0) h0
       have hemp : ((bys s).drop (j + 1)).isEmpty = decide (j + 1 = s.size):=by
        rw [Bool.eq_iff_iff,List.isEmpty_iff,decide_eq_true_eq,List.drop_eq_nil_iff,bys_len]
        omega
       by_cases h32 : x = 32 ∧ j + 1 = s.size
       ·have t32 : ((x.toNat : Int) == 32) = true:=byte_is (k:=32) (by decide) h32.1
        have tj : ((j : Int) == 0) = false:=by rw [t0j,decide_eq_false];exact fun h=>hbad ⟨h,.inl h32.1⟩
        have te : ((j : Int) == (s.size : Int) - 1) = true:=by rw [beq_iff_eq];omega
        have HF : Hid (valueB (bys s) = none):=by show _ = _;rw [← HR.out,hd.out,hP,if_pos (by rw [hemp,h32.1,decide_eq_true h32.2];rfl)]
        clear h92 h0 hP hsp hemp h32 hbad t0j
        go_wp2_with (first
         | (go_at_call 102;(with_reducible refine (special_any x _).mono ?_);rintro e w4 ⟨he4,rfl⟩;rw [HSP.out] at he4;subst he4))
        go_ret2
        exact ⟨by rw [HF.out];rfl,HG.out.ext⟩
       ·have HH : Hid (readF (acc ++ [x]) ((bys s).drop (j + 1)) = valueB (bys s)):=by
         show _ = _
         rw [← HR.out,hd.out,hP,if_neg]
         rw [hemp,hsp]
         simp [h0]
         exact fun e=>fun e2=>h32 ⟨e,e2⟩
        have tt : (((x.toNat : Int) == 32) = true ∧ ((j : Int) == 0) = false ∧ ((j : Int) == (s.size : Int) - 1) = false ∧ ((x.toNat : Int) == 35) = false) ∨ (((x.toNat : Int) == 32) = false ∧ ((x.toNat : Int) == 35) = true ∧ ((j : Int) == 0) = false) ∨ (((x.toNat : Int) == 32) = false ∧ ((x.toNat : Int) == 35) = false):=by
         by_cases h3 : x = 32
         ·left
          refine ⟨byte_is (k:=32) (by decide) h3,?_,?_,byte_isnt (k:=35) (by rw [h3];decide)⟩
          ·rw [t0j,decide_eq_false];exact fun h=>hbad ⟨h,.inl h3⟩
          ·rw [beq_eq_false_iff_ne]
           intro e
           exact h32 ⟨h3,by omega⟩
         ·by_cases h5 : x = 35
          ·right;left
           refine ⟨byte_isnt (k:=32) h3,byte_is (k:=35) (by decide) h5,?_⟩
           rw [t0j,decide_eq_false];exact fun h=>hbad ⟨h,.inr h5⟩
          ·exact .inr (.inr ⟨byte_isnt (k:=32) h3,byte_isnt (k:=35) h5⟩)
        clear h92 h0 hP hsp hemp h32 hbad t0j
        rcases tt with ⟨t1,t2,t3,t4⟩ | ⟨t1,t2,t3⟩ | ⟨t1,t2⟩
        all_goals
         go_wp2_with (first
          | (go_at_call 102;(with_reducible refine (special_any x _).mono ?_);rintro e w4 ⟨he4,rfl⟩;rw [HSP.out] at he4;subst he4)
          | (at_builtin;refine append_grow rfl _ _ rfl _ _ rfl (HG.out.later (Ext.alloc _ _)) _ 1 1 [x] rfl (sl_char _ x) (by omega) ?_;intro v' w5 hg5;have HG5:=hid hg5;clear hg5))
         exact ⟨⟨j + 1,acc ++ [x],by omega,by go_num,by simp;omega,HG5,.inr ⟨by omega,HH⟩⟩,by simp [intOf];omega⟩
  ·obtain rfl : j = s.size:=by omega
   have HF : Hid (valueB (bys s) = some acc):=by
    show _ = _
    rcases HR0.out with ⟨h0,ha⟩ | ⟨_,h⟩
    ·rw [str_emp h0,ha];rfl
    ·rw [← h,drop_none (Nat.le_refl _)];rfl
   obtain ⟨A1,c1,rfl,hs1⟩:=HG.out.sl
   have hC:=hs1.conv wr (Ext.refl wr)
   clear hs1
   go_wp2
   go_ret2
   exact ⟨by rw [HF.out];rfl,HG.out.ext⟩
abbrev Elem.part : Elem (List Ava):=Elem.slc Elem.ava
theorem infoPart : (Tryz.prog.info? 120).map (fun i=>(i.zero,i.size,i.bytes)) = some (some (.slice none 0 0),1,24):=by kernel_rfl
theorem append_part {w w0 : World} {ops : Array Oper} {rest : List Oper} {o : Oper} {a : Act} {Q : Exit → Act → World → Prop} (hgd : o.guard = none) (s x : Operand)
 (ho : o.op = .call { callee:=.builtin .append,args:=#[s,x],argTypes:=#[115,115] }) {L : Option Nat} (v : Value) (l : List (List Ava)) (hs : a.eval s = v) (hg : GrowR Elem.part 120 L w0 w v l)
 {A : Option Addr} {n c : Nat} {t : TypeId} (y : List Ava) (hr : Row Elem.ava (inner w0 v L) w A n c y) (hx : a.eval x = .slice (some ⟨w.heap.size,0,none⟩) 1 1) (hb : l.length ≤ 4000000)
 (h : ∀ v' w',GrowR Elem.part 120 L w0 w' v' (l ++ [y]) → (w.alloc (.cells #[.slice A n c] t)).grownBy w' v.ownBlock → Below w0.heap.size (w.alloc (.cells #[.slice A n c] t)) w' → wpList Tryz.prog ops Q rest (a.put o.dst v') w') :
 wpList Tryz.prog ops Q (o :: rest) a (w.alloc (.cells #[.slice A n c] t)):=by
 have hg':=hg.later (Ext.alloc w (.cells #[.slice A n c] t))
 have hg2:=hg'
 obtain ⟨⟨vss,h1,h2,h3⟩,h4,h5⟩:=hg'
 refine wpList_plain hgd fun _ hK=>?_
 refine wp_append_sz s x 115 ho w0.heap.size 120 (.slice none 0 0) 1 24 Tryz.underlying115 infoPart rfl (by decide) v l.length vss.flatten hs h2 _ 1 1 [.slice A n c] hx rfl (.inr ⟨_,0,rfl,fun j u hj=>by rw [Nat.zero_add,box_a];simpa using hj⟩)
  (fun u hu=>by simp at hu;subst hu;rfl) (by simp [maxLen];omega) (by omega) (ext_sz h4) ?_
 intro v' w' q1 q2 q3
 have hE : Elem.part.R (inner w0 v L) (w.alloc (.cells #[.slice A n c] t)) [.slice A n c] y:=⟨A,n,c,rfl,hr.ext (Ext.alloc _ _)⟩
 obtain ⟨k1,k2⟩:=hg2.snoc (v':=v') (w':=w') hE (fun vs' hvs'=>by
  have e : vs' = vss.flatten:=by
   have e1:=hvs'.2
   have e2:=h2.2
   rcases e1 with ⟨_,z1⟩ | ⟨g,cap,cur,e3,e4,e5,e6,e7,e8,e9⟩
   ·have z2:=hvs'.1
    have z3:=h2.1
    rw [z1,Nat.zero_mul] at z2 z3
    rw [List.eq_nil_of_length_eq_zero z2,List.eq_nil_of_length_eq_zero z3]
   ·rcases e2 with ⟨z0,z1⟩ | ⟨g',cap',cur',f3,f4,f5,f6,f7,f8,f9⟩
    ·rw [e3] at z0;cases z0
    ·rw [e3] at f3
     injection f3 with f3 _ f3'
     injection f3 with f3
     injection f3 with f3
     subst f3
     rw [e5] at f5
     injection f5 with f5
     injection f5 with f5
     subst f5
     rw [← e9,← f9]
  rw [e]
  exact q1) q2 q3
 exact hK _ _ (h v' w' k1 q2 k2)
theorem rinfoPart : (Tryz.prog.info? 93).map (fun i=>(i.zero,i.size,i.bytes)) = some (some (.slice none 0 0),1,24):=by kernel_rfl
theorem rappend_part {w w0 : World} {ops : Array Oper} {rest : List Oper} {o : Oper} {a : Act} {Q : Exit → Act → World → Prop} (hgd : o.guard = none) (s x : Operand)
 (ho : o.op = .call { callee:=.builtin .append,args:=#[s,x],argTypes:=#[90,90] }) {L : Option Nat} (v : Value) (l : List (List Ava)) (hs : a.eval s = v) (hg : GrowR Elem.part 93 L w0 w v l)
 {A : Option Addr} {n c : Nat} {t : TypeId} (y : List Ava) (hr : Row Elem.ava (inner w0 v L) w A n c y) (hx : a.eval x = .slice (some ⟨w.heap.size,0,none⟩) 1 1) (hb : l.length ≤ 4000000)
 (h : ∀ v' w',GrowR Elem.part 93 L w0 w' v' (l ++ [y]) → (w.alloc (.cells #[.slice A n c] t)).grownBy w' v.ownBlock → Below w0.heap.size (w.alloc (.cells #[.slice A n c] t)) w' → wpList Tryz.prog ops Q rest (a.put o.dst v') w') :
 wpList Tryz.prog ops Q (o :: rest) a (w.alloc (.cells #[.slice A n c] t)):=by
 have hg':=hg.later (Ext.alloc w (.cells #[.slice A n c] t))
 have hg2:=hg'
 obtain ⟨⟨vss,h1,h2,h3⟩,h4,h5⟩:=hg'
 refine wpList_plain hgd fun _ hK=>?_
 refine wp_append_sz s x 90 ho w0.heap.size 93 (.slice none 0 0) 1 24 Tryz.underlying90 rinfoPart rfl (by decide) v l.length vss.flatten hs h2 _ 1 1 [.slice A n c] hx rfl (.inr ⟨_,0,rfl,fun j u hj=>by rw [Nat.zero_add,box_a];simpa using hj⟩)
  (fun u hu=>by simp at hu;subst hu;rfl) (by simp [maxLen];omega) (by omega) (ext_sz h4) ?_
 intro v' w' q1 q2 q3
 have hE : Elem.part.R (inner w0 v L) (w.alloc (.cells #[.slice A n c] t)) [.slice A n c] y:=⟨A,n,c,rfl,hr.ext (Ext.alloc _ _)⟩
 obtain ⟨k1,k2⟩:=hg2.snoc (v':=v') (w':=w') hE (fun vs' hvs'=>by
  have e : vs' = vss.flatten:=by
   have e1:=hvs'.2
   have e2:=h2.2
   rcases e1 with ⟨_,z1⟩ | ⟨g,cap,cur,e3,e4,e5,e6,e7,e8,e9⟩
   ·have z2:=hvs'.1
    have z3:=h2.1
    rw [z1,Nat.zero_mul] at z2 z3
    rw [List.eq_nil_of_length_eq_zero z2,List.eq_nil_of_length_eq_zero z3]
   ·rcases e2 with ⟨z0,z1⟩ | ⟨g',cap',cur',f3,f4,f5,f6,f7,f8,f9⟩
    ·rw [e3] at z0;cases z0
    ·rw [e3] at f3
     injection f3 with f3 _ f3'
     injection f3 with f3
     injection f3 with f3
     subst f3
     rw [e5] at f5
     injection f5 with f5
     injection f5 with f5
     subst f5
     rw [← e9,← f9]
  rw [e]
  exact q1) q2 q3
 exact hK _ _ (h v' w' k1 q2 k2)
end Go.Proofs.YtahahafhendgoaaGreatDoor
