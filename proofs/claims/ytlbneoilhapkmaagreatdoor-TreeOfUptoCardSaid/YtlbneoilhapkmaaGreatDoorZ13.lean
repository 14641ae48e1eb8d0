/- Lemmas of the walk that the last text of this claim joins. -/
import Derived.Test.YtlbneoilhapkmaaGreatDoorZ12
import Derived.Test.YtlbneoilhapkmaaGreatDoorZ10
import Derived.Laws.Externs
import Derived.Laws.Cover2
import Derived.Laws.Cover3
import Derived.Laws.FloatArith
import Derived.Test.YtlbneoilhapkmaaGreatDoorZ07
set_option maxHeartbeats 40000000
set_option linter.unusedVariables false
set_option linter.unusedSimpArgs false
namespace Go.Proofs.YtlbneoilhapkmaaGreatDoor
open Go.RowKit
set_option maxRecDepth 100000
theorem toIntegral_number {P : Program} (x : Nat) {s : Bool} {m : Nat} {p : Int} (hx : FloatKind.decode .f64 x = .number s m p) (w : World) :
 (Extern.MathFloor.toIntegral "math.archTrunc" .zero #[.float .f64 x]).run P w = .ok (.float .f64 (FloatKind.encode .f64 ((Ieee.Datum.number s m p).integral .zero))) w:=by
 obtain ⟨A,hA⟩ : ∃ A : Bool → Nat → Sem Value,Extern.MathFloor.toIntegral "math.archTrunc" .zero #[.float .f64 x] = (match FloatKind.decode .f64 x with | .nan s t=>A s t | d=>pure (.float .f64 (FloatKind.encode .f64 (d.integral .zero)))):=⟨_,rfl⟩
 rw [hA,hx]
 rfl
theorem toIntegral_bits {P : Program} {n : Int} (h : n.natAbs < 9007199254740992) (w : World) : (Extern.MathFloor.toIntegral "math.archTrunc" .zero #[.float .f64 (bitsI n)]).run P w = .ok (.float .f64 (bitsI n)) w:=by
 have ht:=trunc_bits h
 have hd : FloatKind.decode .f64 (bitsI n) = Ieee.double.read (bitsI n):=rfl
 by_cases h0 : n = 0
 ·subst h0
  rw [bits_zero,read_zero] at *
  rw [toIntegral_number 0 hd]
  exact congrArg (fun b=>Result.ok (Value.float .f64 b) w) ht
 ·rw [read_bits h0 h] at *
  rw [toIntegral_number _ hd]
  exact congrArg (fun b=>Result.ok (Value.float .f64 b) w) ht
theorem trunc_run {n : Int} (h : n.natAbs < 9007199254740992) (w : World) : (callFunc 354 #[.float .f64 (bitsI n)]).run Tryz.prog w = .ok (.value (.float .f64 (bitsI n))) w:=by
 have:=run_callFunc_extern (P:=Tryz.prog) (e:=Extern.MathFloor.toIntegral "math.archTrunc" .zero) Tryz.func354 (by kernel_rfl) (by kernel_rfl) (by kernel_rfl) (by kernel_rfl) #[.float .f64 (bitsI n)] w
 rw [this,toIntegral_bits h]
 rfl
theorem tobits_run (b : Nat) (w : World) : (callFunc 357 #[.float .f64 b]).run Tryz.prog w = .ok (.value (.int .u64 b)) w:=by
 have:=run_callFunc_extern (P:=Tryz.prog) (e:=Extern.MathFloatBits.float64bits) Tryz.func357 (by kernel_rfl) (by kernel_rfl) (by kernel_rfl) (by kernel_rfl) #[.float .f64 b] w
 rw [this]
 rfl
theorem frombits_run (b : Nat) (w : World) : (callFunc 356 #[.int .u64 b]).run Tryz.prog w = .ok (.value (.float .f64 b)) w:=by
 have:=run_callFunc_extern (P:=Tryz.prog) (e:=Extern.MathFloatBits.float64frombits) Tryz.func356 (by kernel_rfl) (by kernel_rfl) (by kernel_rfl) (by kernel_rfl) #[.int .u64 b] w
 rw [this]
 rfl
theorem mtrunc_any {n : Int} (h : n.natAbs < 9007199254740992) (w : World) : Calls Tryz.prog 345 #[.float .f64 (bitsI n)] w fun e w'=>e = .returned (.float .f64 (bitsI n)) ∧ w' = w:=by
 have ht:=fun w=>trunc_run h w
 generalize bitsI n = b at *
 go_enter Tryz.func345,Tryz.ntmps345
 go_wp2
 go_ret
 exact ⟨rfl,rfl⟩
theorem abs_val {n : Int} (h : n.natAbs < 9007199254740992) : bits .andNot .u64 (bitsI n) 9223372036854775808 = (bitsI (n.natAbs : Int) : Int):=by
 have hl:=bits_lt h
 have ha:=abs_bits h
 have hk : bitsI (n.natAbs : Int) < 9223372036854775808:=by rw [← ha];exact Nat.mod_lt _ (by decide)
 have e1 : (BitVec.ofInt 64 (bitsI n : Int) &&& ~~~BitVec.ofInt 64 9223372036854775808).toNat = bitsI n % 9223372036854775808:=by
  have e2 : ~~~BitVec.ofInt 64 9223372036854775808 = BitVec.ofNat 64 (2 ^ 63 - 1):=by decide
  rw [e2,BitVec.toNat_and,BitVec.toNat_ofNat]
  have e3 : (BitVec.ofInt 64 (bitsI n : Int)).toNat = bitsI n:=by
   rw [BitVec.toNat_ofInt]
   omega
  rw [e3,show (2 ^ 63 - 1) % 2 ^ 64 = 2 ^ 63 - 1 by decide,Nat.and_two_pow_sub_one_eq_mod]
 show IntKind.wrap .u64 ((BitVec.ofInt 64 (bitsI n : Int) &&& ~~~BitVec.ofInt 64 9223372036854775808).toNat : Int) = _
 rw [e1,ha]
 unfold IntKind.wrap
 simp [IntKind.signed,IntKind.bits]
 omega
theorem mabs_any {n : Int} (h : n.natAbs < 9007199254740992) (w : World) : Calls Tryz.prog 346 #[.float .f64 (bitsI n)] w fun e w'=>e = .returned (.float .f64 (bitsI (n.natAbs : Int))) ∧ w' = w:=by
 have ht:=fun w=>tobits_run (bitsI n) w
 have hf:=fun w=>frombits_run (bitsI (n.natAbs : Int)) w
 have ha:=abs_val h
 generalize bitsI (n.natAbs : Int) = c at *
 generalize bitsI n = b at *
 go_enter Tryz.func346,Tryz.ntmps346
 go_wp2
 go_ret
 exact ⟨rfl,rfl⟩
theorem msign_cmp {b : Nat} (h : b < 18446744073709551616) : decide (wrap64 (b : Int) < 0) = decide (9223372036854775808 ≤ b):=by
 have : wrap64 (b : Int) < 0 ↔ 9223372036854775808 ≤ b:=by unfold wrap64;omega
 exact decide_eq_decide.mpr this
theorem msign_any {n : Int} (h : n.natAbs < 9007199254740992) (w : World) : Calls Tryz.prog 347 #[.float .f64 (bitsI n)] w fun e w'=>e = .returned (.bool (decide (n < 0))) ∧ w' = w:=by
 have ht:=fun w=>tobits_run (bitsI n) w
 have hs:=sign_bits h
 have hl:=bits_lt h
 rw [← hs]
 generalize bitsI n = b at *
 clear hs h
 go_enter Tryz.func347,Tryz.ntmps347
 go_wp2
 have hc:=msign_cmp hl
 go_ret
 exact ⟨by rw [hc];rfl,rfl⟩
theorem cmp_bits {a b : Int} (ha : a.natAbs < 9007199254740992) (hb : b.natAbs < 9007199254740992) : (FloatKind.f64).format.order (bitsI a) (bitsI b) = some (compare a b):=order_bits ha hb
theorem bits_million : bitsI 1000000 = 4696837146684686336:=by decide
theorem bits_one : bitsI 1 = 4607182418800017408:=by decide
theorem bits_mone : bitsI (-1) = 13830554455654793216:=by decide
theorem part_any {n : Int} (h : n.natAbs < 9007199254740992) (w : World) : Calls Tryz.prog 328 #[.float .f64 (bitsI n)] w fun e w'=>e = .returned (.bool (decide (n.natAbs ≤ 1000000))) ∧ w' = w:=by
 have h1:=fun w=>mtrunc_any h w
 have h2:=fun w=>mabs_any h w
 have h3:=fun w=>msign_any h w
 have c1 : ((FloatKind.f64).format.order (bitsI n) (bitsI n) == some .eq) = true:=by rw [cmp_bits h h];simp
 have c2 : ((FloatKind.f64).format.order (bitsI (n.natAbs : Int)) 4696837146684686336 == some .lt || (FloatKind.f64).format.order (bitsI (n.natAbs : Int)) 4696837146684686336 == some .eq) = decide (n.natAbs ≤ 1000000):=by
  rw [← bits_million,cmp_bits (by omega) (by decide)]
  rcases Int.lt_trichotomy (n.natAbs : Int) 1000000 with h | h | h
  ·rw [(Int.compare_eq_lt).2 h];simp;omega
  ·rw [(Int.compare_eq_eq).2 h];simp;omega
  ·rw [(Int.compare_eq_gt).2 h];simp;omega
 have c3 : ((FloatKind.f64).format.order (bitsI n) 0 != some .eq) = decide (n ≠ 0):=by
  rw [← bits_zero,cmp_bits h (by decide)]
  rcases Int.lt_trichotomy n 0 with h | h | h
  ·have hn : n ≠ 0:=by omega
   rw [(Int.compare_eq_lt).2 h];simp [hn]
  ·rw [(Int.compare_eq_eq).2 h];simp [h]
  ·have hn : n ≠ 0:=by omega
   rw [(Int.compare_eq_gt).2 h];simp [hn]
 generalize bitsI n = b at *
 generalize bitsI (n.natAbs : Int) = c at *
 go_enter Tryz.func328,Tryz.ntmps328
 go_wp2_with (first
  | (go_at_call 345;(with_reducible refine (h1 _).mono ?_);rintro e w1 ⟨rfl,rfl⟩)
  | (go_at_call 346;(with_reducible refine (h2 _).mono ?_);rintro e w1 ⟨rfl,rfl⟩)
  | (go_at_call 347;(with_reducible refine (h3 _).mono ?_);rintro e w1 ⟨rfl,rfl⟩))
 all_goals clear h1 h2 h3
 all_goals go_ret
 all_goals exact ⟨by simp [*] <;> (try rfl),rfl⟩
theorem phformed_any {a b : Int} (ha : a.natAbs < 9007199254740992) (hb : b.natAbs < 9007199254740992) (w : World) : Calls Tryz.prog 307 #[.complex .f64 (bitsI a) (bitsI b)] w fun e w'=>e = .returned (.bool (decide (a.natAbs ≤ 1000000) && decide (b.natAbs ≤ 1000000))) ∧ w' = w:=by
 have h1:=fun w=>part_any ha w
 have h2:=fun w=>part_any hb w
 generalize bitsI a = x at *
 generalize bitsI b = y at *
 generalize decide (a.natAbs ≤ 1000000) = d at *
 generalize decide (b.natAbs ≤ 1000000) = f at *
 go_enter Tryz.func307,Tryz.ntmps307
 go_wp2_with (first
  | (go_at_call 328;(with_reducible refine (h1 _).mono ?_);rintro e w1 ⟨rfl,rfl⟩)
  | (go_at_call 328;(with_reducible refine (h2 _).mono ?_);rintro e w1 ⟨rfl,rfl⟩))
 all_goals go_ret
 all_goals exact ⟨by simp [*] <;> (try rfl),rfl⟩
theorem toint_val {n : Int} (h : n.natAbs < 9007199254740992) : floatToIntVal .f64 (bitsI n) .i64 = some n:=by
 have ht:=toInt_bits h
 have hd : FloatKind.decode .f64 (bitsI n) = Ieee.double.read (bitsI n):=rfl
 unfold floatToIntVal
 rw [hd,ht]
 have h1 : IntKind.i64.min = -9223372036854775808:=by decide
 have h2 : IntKind.i64.max = 9223372036854775807:=by decide
 show (if IntKind.i64.min ≤ n ∧ n ≤ IntKind.i64.max then some n else none) = some n
 rw [if_pos ⟨by omega,by omega⟩]
theorem conv_run {n : Int} (h : n.natAbs < 9007199254740992) (w : World) : (convert 333 2 (.float .f64 (bitsI n))).run Tryz.prog w = .ok (.int .i64 n) w:=
 run_convert_float_int w _ _ .f64 .i64 _ n (by rw [Tryz.underlying333];rfl) Tryz.underlying2 (toint_val h)
theorem integer_any {n : Int} (h : n.natAbs < 9007199254740992) (w : World) (hG : Gl w) : Calls Tryz.prog 308 #[.float .f64 (bitsI n)] w fun e w'=>e = .returned (.string (str (Lib.itoa n))) ∧ Ext w w':=by
 have hc:=conv_run h w
 have hf:=formatint_any n w hG (by omega) (by omega)
 generalize bitsI n = b at *
 go_enter Tryz.func308,Tryz.ntmps308
 go_wp2_with (go_at_call 285;(with_reducible refine hf.mono ?_);rintro e w1 ⟨rfl,hx⟩)
 go_ret
 exact ⟨rfl,hx⟩
theorem parse32_bound {l : List UInt8} {n : Int} (h : Lib.parseIntB 32 l = .ok n) : n.natAbs ≤ 2147483648:=by
 unfold Lib.parseIntB at h
 split at h
 ·cases h
 ·simp only at h
  split at h
  ·cases h
  ·cases h
  ·split at h
   ·cases h
   ·split at h
    ·cases h
    ·cases h
     split <;> omega
theorem parseint32_ok (s : ByteArray) (n : Int) (w : World) (hs : s.size ≤ 4000000) (h : Lib.parseIntB 32 (bys s) = .ok n) :
 Calls Tryz.prog 284 #[.string s,.int .i64 10,.int .i64 32] w fun e w'=>e = .returned (.tuple #[.int .i64 n,.nilIface]) ∧ Ext w w':=by
 refine (Any.strconv_ParseInt_10_at32_ok Tryz.laysC174 s (by omega) n h w).mono ?_
 rintro e w' ⟨rfl,rfl | ⟨t,rfl⟩⟩
 ·exact ⟨rfl,Ext.refl _⟩
 ·exact ⟨rfl,ext_bytes _ _ _⟩
theorem sat32 (l : List UInt8) : (Lib.intSat 32 l).natAbs < 9007199254740992:=by
 unfold Lib.intSat
 split <;> decide
theorem parseint32_bad (s : ByteArray) (w : World) (hG : Gl w) (hs : s.size ≤ 4000000) (h : ∀ n,Lib.parseIntB 32 (bys s) ≠ .ok n) :
 Calls Tryz.prog 284 #[.string s,.int .i64 10,.int .i64 32] w fun e w'=>(∃ (n : Int) (tp : Nat) (a : Addr),n.natAbs < 9007199254740992 ∧ e = .returned (.tuple #[.int .i64 n,.iface tp (.pointer (some a))])) ∧ Ext w w':=by
 obtain ⟨-,⟨t1,p1,h1⟩,⟨t2,p2,h2⟩,-⟩:=hG
 rcases hp : Lib.parseIntB 32 (bys s) with n | _ | _
 ·exact absurd hp (h n)
 ·refine (Any.strconv_ParseInt_10_at32_syntax_var Tryz.laysC174 s (by omega) hp t1 p1 w h1).mono ?_
  rintro e w' ⟨N,rfl,_,_,hx⟩
  exact ⟨⟨_,_,_,by decide,rfl⟩,hx⟩
 ·refine (Any.strconv_ParseInt_10_at32_range_var Tryz.laysC174 s (by omega) hp t2 p2 w h2).mono ?_
  rintro e w' ⟨N,rfl,_,_,hx⟩
  exact ⟨⟨_,_,_,sat32 _,rfl⟩,hx⟩
def ReadSays (s : ByteArray) (w : World) (e : Ending) (w' : World) : Prop:=∃ (n : Int) (b : Bool),n.natAbs < 9007199254740992 ∧ e = .returned (.tuple #[.float .f64 (bitsI n),.bool b]) ∧ Ext w w' ∧ (b = true → Lib.parseIntB 32 (bys s) = .ok n) ∧ (b = false → ∀ n,Lib.parseIntB 32 (bys s) ≠ .ok n)
theorem convf_run (n : Int) (w : World) : (convert 2 333 (.int .i64 n)).run Tryz.prog w = .ok (.float .f64 (bitsI n)) w:=
 run_convert_int_float w _ _ .i64 .f64 n (by rw [Tryz.underlying2];rfl) Tryz.underlying333
theorem phread_any (s : ByteArray) (w : World) (hG : Gl w) (hs : s.size ≤ 4000000) : Calls Tryz.prog 305 #[.string s] w (ReadSays s w):=by
 by_cases hp : ∃ n,Lib.parseIntB 32 (bys s) = .ok n
 ·obtain ⟨n,hn⟩:=hp
  have hb:=parse32_bound hn
  have HC:=parseint32_ok s n w hs hn
  have hc:=convf_run n
  have HS : ∀ w',Ext w w' → ReadSays s w (.returned (.tuple #[.float .f64 (bitsI n),.bool true])) w':=fun w' hx=>⟨n,true,by omega,rfl,hx,fun _=>hn,fun h=>by cases h⟩
  generalize bitsI n = b at *
  clear hn hb
  generalize ReadSays s w = R at *
  go_enter Tryz.func305,Tryz.ntmps305
  go_wp2_with (go_at_call 284;(with_reducible refine HC.mono ?_);rintro e w1 ⟨rfl,hx⟩;have HX:=hid hx;clear hx HC)
  refine wp_region_plan (.read 0 (.read 1 (.read 2 (.read 3 (.read 4 (.read 5 .done)))))) (by kernel_rfl) (by kernel_rfl) ?_
  intro wD hxD
  repeat' (first
   | ((first | refine walks_move rfl rfl ?_ | refine walks_assign rfl rfl ?_ | refine walks_skip rfl rfl ?_);simp only [Act.put,Act.eval,evs])
   | (refine walks_unwanted rfl rfl ?_;simp only [Act.put,evp])
   | (refine walks_read (v:=?_) rfl rfl (fun w' hE=>?_) ?_;rotate_left 1;(· ((try (have hEx:=Ext.trans (Hid.out XE) hE));go_simp;(try go_bits);with_reducible rfl));simp only [Act.put,evp])
   | (refine walks_alt ?_ ?_)
   | (refine walks_main rfl rfl (fun K hK=>?_);go_wp2_with (fail);refine hK _ _ (by first | assumption | exact Ext.alloc _ _ | exact Ext.refl _) ?_;clear hK K;try simp only [Act.put,evp]))
  refine walks_done ?_
  go_wp2
  first | exact HX.out.trans hxD | exact HS _ (HX.out.trans hxD)
 ·have HC:=parseint32_bad s w hG hs (fun n hn=>hp ⟨n,hn⟩)
  have HS : ∀ n w',n.natAbs < 9007199254740992 → Ext w w' → ReadSays s w (.returned (.tuple #[.float .f64 (bitsI n),.bool false])) w':=fun n w' hb hx=>⟨n,false,hb,rfl,hx,fun h=>by (cases h),fun _ n hn=>hp ⟨n,hn⟩⟩
  clear hp
  generalize ReadSays s w = R at *
  go_enter Tryz.func305,Tryz.ntmps305
  go_wp2_with (go_at_call 284;(with_reducible refine HC.mono ?_);rintro e w1 ⟨⟨n,tp,a,hb,rfl⟩,hx⟩;have HX:=hid hx;have HS:=HS n;have hc:=convf_run n;clear hx HC)
  generalize bitsI n = b at *
  refine wp_region_plan (.read 0 (.read 1 (.read 2 (.read 3 (.read 4 (.read 5 .done)))))) (by kernel_rfl) (by kernel_rfl) ?_
  intro wD hxD
  repeat' (first
   | ((first | refine walks_move rfl rfl ?_ | refine walks_assign rfl rfl ?_ | refine walks_skip rfl rfl ?_);simp only [Act.put,Act.eval,evs])
   | (refine walks_unwanted rfl rfl ?_;simp only [Act.put,evp])
   | (refine walks_read (v:=?_) rfl rfl (fun w' hE=>?_) ?_;rotate_left 1;(· ((try (have hEx:=Ext.trans (Hid.out XE) hE));go_simp;(try go_bits);with_reducible rfl));simp only [Act.put,evp])
   | (refine walks_alt ?_ ?_)
   | (refine walks_main rfl rfl (fun K hK=>?_);go_wp2_with (fail);refine hK _ _ (by first | assumption | exact Ext.alloc _ _ | exact Ext.refl _) ?_;clear hK K;try simp only [Act.put,evp]))
  refine walks_done ?_
  go_wp2
  exact HS _ hb (HX.out.trans hxD)
abbrev Elem.part : Elem (List Ava):=Elem.slc Elem.ava
theorem infoPart : (Tryz.prog.info? 162).map (fun i=>(i.zero,i.size,i.bytes)) = some (some (.slice none 0 0),1,24):=by kernel_rfl
theorem append_part {w w0 : World} {ops : Array Oper} {rest : List Oper} {o : Oper} {a : Act} {Q : Exit → Act → World → Prop} (hgd : o.guard = none) (s x : Operand)
 (ho : o.op = .call { callee:=.builtin .append,args:=#[s,x],argTypes:=#[231,231] }) {L : Option Nat} (v : Value) (l : List (List Ava)) (hs : a.eval s = v) (hg : GrowR Elem.part 162 L w0 w v l)
 {A : Option Addr} {n c : Nat} {t : TypeId} (y : List Ava) (hr : Row Elem.ava (inner w0 v L) w A n c y) (hx : a.eval x = .slice (some ⟨w.heap.size,0,none⟩) 1 1) (hb : l.length ≤ 4000000)
 (h : ∀ v' w',GrowR Elem.part 162 L w0 w' v' (l ++ [y]) → (w.alloc (.cells #[.slice A n c] t)).grownBy w' v.ownBlock → Below w0.heap.size (w.alloc (.cells #[.slice A n c] t)) w' → wpList Tryz.prog ops Q rest (a.put o.dst v') w') :
 wpList Tryz.prog ops Q (o :: rest) a (w.alloc (.cells #[.slice A n c] t)):=by
 have hg':=hg.later (Ext.alloc w (.cells #[.slice A n c] t))
 have hg2:=hg'
 obtain ⟨⟨vss,h1,h2,h3⟩,h4,h5⟩:=hg'
 refine wpList_plain hgd fun _ hK=>?_
 refine wp_append_sz s x 231 ho w0.heap.size 162 (.slice none 0 0) 1 24 Tryz.underlying231 infoPart rfl (by decide) v l.length vss.flatten hs h2 _ 1 1 [.slice A n c] hx rfl (.inr ⟨_,0,rfl,fun j u hj=>by rw [Nat.zero_add,box_a];simpa using hj⟩)
  (fun u hu=>by simp at hu;subst hu;rfl) (by simp [maxLen];omega) (by omega) (ext_sz h4) ?_
 intro v' w' q1 q2 q3
 have hE : Elem.part.R (inner w0 v L) (w.alloc (.cells #[.slice A n c] t)) [.slice A n c] y:=⟨A,n,c,rfl,hr.ext (Ext.alloc _ _)⟩
 obtain ⟨k1,k2⟩:=hg2.snoc (v':=v') (w':=w') hE (fun vs' hvs'=>by
  have e : vs' = vss.flatten:=by
   have e1:=hvs'.2
   have e2:=h2.2
   rcases e1 with ⟨_,z1⟩ | ⟨g,cap,cur,e3,e4,e5,e6,e7,e8,e9⟩
   ·have z2:=hvs'.1
    have z3:=h2.1
    rw [z1,Nat.zero_mul] at z2 z3
    rw [List.eq_nil_of_length_eq_zero z2,List.eq_nil_of_length_eq_zero z3]
   ·rcases e2 with ⟨z0,z1⟩ | ⟨g',cap',cur',f3,f4,f5,f6,f7,f8,f9⟩
    ·rw [e3] at z0;cases z0
    ·rw [e3] at f3
     injection f3 with f3 _ f3'
     injection f3 with f3
     injection f3 with f3
     subst f3
     rw [e5] at f5
     injection f5 with f5
     injection f5 with f5
     subst f5
     rw [← e9,← f9]
  rw [e]
  exact q1) q2 q3
 exact hK _ _ (h v' w' k1 q2 k2)
theorem rinfoPart : (Tryz.prog.info? 186).map (fun i=>(i.zero,i.size,i.bytes)) = some (some (.slice none 0 0),1,24):=by kernel_rfl
theorem rappend_part {w w0 : World} {ops : Array Oper} {rest : List Oper} {o : Oper} {a : Act} {Q : Exit → Act → World → Prop} (hgd : o.guard = none) (s x : Operand)
 (ho : o.op = .call { callee:=.builtin .append,args:=#[s,x],argTypes:=#[183,183] }) {L : Option Nat} (v : Value) (l : List (List Ava)) (hs : a.eval s = v) (hg : GrowR Elem.part 186 L w0 w v l)
 {A : Option Addr} {n c : Nat} {t : TypeId} (y : List Ava) (hr : Row Elem.ava (inner w0 v L) w A n c y) (hx : a.eval x = .slice (some ⟨w.heap.size,0,none⟩) 1 1) (hb : l.length ≤ 4000000)
 (h : ∀ v' w',GrowR Elem.part 186 L w0 w' v' (l ++ [y]) → (w.alloc (.cells #[.slice A n c] t)).grownBy w' v.ownBlock → Below w0.heap.size (w.alloc (.cells #[.slice A n c] t)) w' → wpList Tryz.prog ops Q rest (a.put o.dst v') w') :
 wpList Tryz.prog ops Q (o :: rest) a (w.alloc (.cells #[.slice A n c] t)):=by
 have hg':=hg.later (Ext.alloc w (.cells #[.slice A n c] t))
 have hg2:=hg'
 obtain ⟨⟨vss,h1,h2,h3⟩,h4,h5⟩:=hg'
 refine wpList_plain hgd fun _ hK=>?_
 refine wp_append_sz s x 183 ho w0.heap.size 186 (.slice none 0 0) 1 24 Tryz.underlying183 rinfoPart rfl (by decide) v l.length vss.flatten hs h2 _ 1 1 [.slice A n c] hx rfl (.inr ⟨_,0,rfl,fun j u hj=>by rw [Nat.zero_add,box_a];simpa using hj⟩)
  (fun u hu=>by simp at hu;subst hu;rfl) (by simp [maxLen];omega) (by omega) (ext_sz h4) ?_
 intro v' w' q1 q2 q3
 have hE : Elem.part.R (inner w0 v L) (w.alloc (.cells #[.slice A n c] t)) [.slice A n c] y:=⟨A,n,c,rfl,hr.ext (Ext.alloc _ _)⟩
 obtain ⟨k1,k2⟩:=hg2.snoc (v':=v') (w':=w') hE (fun vs' hvs'=>by
  have e : vs' = vss.flatten:=by
   have e1:=hvs'.2
   have e2:=h2.2
   rcases e1 with ⟨_,z1⟩ | ⟨g,cap,cur,e3,e4,e5,e6,e7,e8,e9⟩
   ·have z2:=hvs'.1
    have z3:=h2.1
    rw [z1,Nat.zero_mul] at z2 z3
    rw [List.eq_nil_of_length_eq_zero z2,List.eq_nil_of_length_eq_zero z3]
   ·rcases e2 with ⟨z0,z1⟩ | ⟨g',cap',cur',f3,f4,f5,f6,f7,f8,f9⟩
    ·rw [e3] at z0;cases z0
    ·rw [e3] at f3
     injection f3 with f3 _ f3'
     injection f3 with f3
     injection f3 with f3
     subst f3
     rw [e5] at f5
     injection f5 with f5
     injection f5 with f5
     subst f5
     rw [← e9,← f9]
  rw [e]
  exact q1) q2 q3
 exact hK _ _ (h v' w' k1 q2 k2)
end Go.Proofs.YtlbneoilhapkmaaGreatDoor
