/-
  DERIVED: THE SHELF's CONTRACTS AT THIS DUMP,IN PLAIN WORDS (tools/lay-plain.mjs out of 'TryzShelf.lean',which tools/lay-shelf.mjs wrote): THE SAME DECLARATIONS UNDER THE SAME NAMES: 'import','namespace','open','def','theorem' AND NOTHING ELSE: no command of the shelf's: FOR A HAND-IN. Each laying: the table of numbers ('.._ren') and one theorem,a field a fact of the dump's own or the kernel's comparison;each contract: ONE APPLICATION.
-/
import Derived.Shelf.Strings.Builder1
import Derived.Shelf.Strings.Builder2
import Derived.Shelf.Strings.OnBuilder
import Derived.Shelf.Small.Utf8
import Derived.Shelf.Small.Strs
import Derived.Shelf.Small.Wraps
import Derived.Shelf.Strings.BuilderF
import Derived.Shelf.Strings.BuilderK
import Derived.Shelf.Strconv.Itoa0
import Derived.Shelf.Strconv.Itoa1
import Derived.Shelf.LaysM
import Derived.Shelf.Strconv.Itoa2
import Derived.Shelf.Strconv.Itoa3
import Derived.Shelf.Strconv.Itoa4
import Derived.Shelf.Strconv.ParseIntEmpty
import Derived.Shelf.Strconv.Clone
import Derived.Shelf.Strconv.SyntaxError
import Derived.Shelf.LaysC
import Derived.Shelf.Strconv.ToError
import Derived.Shelf.Strconv.Lower
import Derived.Shelf.Strconv.ParseUint10
import Derived.Shelf.Strconv.ParseUint10Empty
import Derived.Shelf.Strconv.ParseUint10Any
import Derived.Shelf.Strconv.ParseInt10
import Derived.Shelf.Strconv.RangeError
import Derived.Shelf.Strconv.ToErrorRange
import Derived.Shelf.Strconv.ParseUintEmpty
import Derived.Shelf.Strconv.ParseUint10b64
import Derived.Shelf.Strconv.ParseUint10b32
import Derived.Shelf.Strconv.ParseUint10b16
import Derived.Shelf.Strconv.ParseUint10b8
import Derived.Shelf.Strconv.ParseUint10At
import Derived.Shelf.Strconv.ParseInt10At64
import Derived.Shelf.Strconv.ParseInt10At32
import Derived.Shelf.Strconv.ParseInt10At16
import Derived.Shelf.Strconv.ParseInt10At8
import Derived.Shelf.Strconv.ParseInt10All
import Derived.Shelf.Strconv.ParseIntPublic10
import Derived.Shelf.Strconv.ErrVarParseInt
import Derived.Shelf.Strings.Search1
import Derived.Shelf.Strings.Search2
import Derived.Shelf.Strings.Search3
import Derived.Shelf.Strings.Cut
import Derived.Shelf.Strings.Count
import Derived.Shelf.Strings.Shaped
import Derived.Shelf.Strings.Prefix
import Derived.Shelf.Strings.Split
import Derived.Shelf.Strings.Replace
import Derived.Shelf.Strings.SplitShaped
import Derived.Shelf.Strings.Runes
import Derived.Shelf.Strings.IndexAny
import Derived.Shelf.Strings.AsciiSet
import Derived.Shelf.Unicode.DecodeSlow
import Derived.Shelf.Slices.Equal
import Derived.Ground.Names2Prog
import Derived.Shelf.Slices.Clone
import Derived.Test.YtlbneoilhapkmaaGreatDoorProg
namespace Go.Proofs
open Go.Shelf
def Tryz.lays169_ren : Go.Shelf.Ren:=⟨fun | 169=>194 | n=>n,fun | 70=>236 | 9=>9 | 0=>0 | 72=>239 | 37=>237 | 127=>283 | 3=>3 | 5=>5 | n=>n,fun | n=>n⟩
theorem Tryz.lays169 : Go.Proofs.Lays.n169 Tryz.prog Tryz.lays169_ren:={
 mixed:=by kernel_rfl
 f169:=Tryz.func194.trans (congrArg some (by kernel_rfl))
 t0:=Tryz.underlying0
 a0:=Tryz.isAgg0
 z0:=Tryz.sizeOf0
 v0:=Tryz.zeroValue0
 t3:=Tryz.underlying3
 a3:=Tryz.isAgg3
 z3:=Tryz.sizeOf3
 v3:=Tryz.zeroValue3
 t9:=Tryz.underlying9
 a9:=Tryz.isAgg9
 z9:=Tryz.sizeOf9
 v9:=Tryz.zeroValue9
 t37:=Tryz.underlying237
 a37:=Tryz.isAgg237
 z37:=Tryz.sizeOf237
 v37:=Tryz.zeroValue237
 t70:=Tryz.underlying236
 a70:=Tryz.isAgg236
 z70:=Tryz.sizeOf236
 v70:=Tryz.zeroValue236
 t72:=Tryz.underlying239
 a72:=Tryz.isAgg239
 z72:=Tryz.sizeOf239
 v72:=Tryz.zeroValue239
 t127:=Tryz.underlying283
 a127:=Tryz.isAgg283
 z127:=Tryz.sizeOf283
 v127:=Tryz.zeroValue283 }
theorem Tryz.Builder_Extra_169 : Builder.Extra Tryz.prog Tryz.lays169_ren:={
 sizeBuilder:=by kernel_rfl
 liesBuilder:=by kernel_rfl
 t5:=Tryz.underlying5
 a5:=Tryz.isAgg5
 z5:=Tryz.sizeOf5
 v5:=Tryz.zeroValue5
 infoByte:=by kernel_rfl
 cellsByte:=by kernel_rfl
 sizeByte:=by kernel_rfl
 neB5:=by decide }
open Go.RowKit in
theorem Tryz.Builder_String_any (B b : Nat) (l : List UInt8) (w : World) (h : Lib.IsBuilder 239 5 B b (Lib.byteCells l) w) (hBw : B ≤ w.heap.size) :
 Calls Tryz.prog 194 #[.pointer (some ⟨b,0,none⟩)] w fun e w'=>e = .returned (.string ⟨l.toArray⟩) ∧ Below B w w':=Any.Builder_String_any Tryz.lays169 Tryz.Builder_Extra_169 B b l w h hBw
def Tryz.lays156_ren : Go.Shelf.Ren:=⟨fun | 156=>123 | 165=>192 | 166=>193 | 169=>194 | 240=>242 | 241=>243 | 276=>270 | 277=>271 | n=>n,fun | 31=>66 | 9=>9 | 3=>3 | 4=>4 | 0=>0 | 20=>20 | 72=>239 | 76=>243 | 70=>236 | 37=>237 | 75=>242 | 127=>283 | 164=>308 | 5=>5 | 80=>245 | n=>n,fun | n=>n⟩
theorem Tryz.lays156 : Go.Proofs.Lays.n156 Tryz.prog Tryz.lays156_ren:={
 mixed:=by kernel_rfl
 f156:=Tryz.func123.trans (congrArg some (by kernel_rfl))
 f165:=Tryz.func192.trans (congrArg some (by kernel_rfl))
 f166:=Tryz.func193.trans (congrArg some (by kernel_rfl))
 f169:=Tryz.func194.trans (congrArg some (by kernel_rfl))
 f240:=Tryz.func242.trans (congrArg some (by kernel_rfl))
 f241:=Tryz.func243.trans (congrArg some (by kernel_rfl))
 f276:=Tryz.func270.trans (congrArg some (by kernel_rfl))
 f277:=Tryz.func271.trans (congrArg some (by kernel_rfl))
 t0:=Tryz.underlying0
 a0:=Tryz.isAgg0
 z0:=Tryz.sizeOf0
 v0:=Tryz.zeroValue0
 t3:=Tryz.underlying3
 a3:=Tryz.isAgg3
 z3:=Tryz.sizeOf3
 v3:=Tryz.zeroValue3
 t4:=Tryz.underlying4
 a4:=Tryz.isAgg4
 z4:=Tryz.sizeOf4
 v4:=Tryz.zeroValue4
 t9:=Tryz.underlying9
 a9:=Tryz.isAgg9
 z9:=Tryz.sizeOf9
 v9:=Tryz.zeroValue9
 t20:=Tryz.underlying20
 a20:=Tryz.isAgg20
 z20:=Tryz.sizeOf20
 v20:=Tryz.zeroValue20
 t31:=Tryz.underlying66
 a31:=Tryz.isAgg66
 z31:=Tryz.sizeOf66
 v31:=Tryz.zeroValue66
 t37:=Tryz.underlying237
 a37:=Tryz.isAgg237
 z37:=Tryz.sizeOf237
 v37:=Tryz.zeroValue237
 t70:=Tryz.underlying236
 a70:=Tryz.isAgg236
 z70:=Tryz.sizeOf236
 v70:=Tryz.zeroValue236
 t72:=Tryz.underlying239
 a72:=Tryz.isAgg239
 z72:=Tryz.sizeOf239
 v72:=Tryz.zeroValue239
 t75:=Tryz.underlying242
 a75:=Tryz.isAgg242
 z75:=Tryz.sizeOf242
 v75:=Tryz.zeroValue242
 t76:=Tryz.underlying243
 a76:=Tryz.isAgg243
 z76:=Tryz.sizeOf243
 v76:=Tryz.zeroValue243
 t127:=Tryz.underlying283
 a127:=Tryz.isAgg283
 z127:=Tryz.sizeOf283
 v127:=Tryz.zeroValue283
 t164:=Tryz.underlying308
 a164:=Tryz.isAgg308
 z164:=Tryz.sizeOf308
 v164:=Tryz.zeroValue308 }
theorem Tryz.Builder_Extra_156 : Builder.Extra Tryz.prog Tryz.lays156_ren:={
 sizeBuilder:=by kernel_rfl
 liesBuilder:=by kernel_rfl
 t5:=Tryz.underlying5
 a5:=Tryz.isAgg5
 z5:=Tryz.sizeOf5
 v5:=Tryz.zeroValue5
 infoByte:=by kernel_rfl
 cellsByte:=by kernel_rfl
 sizeByte:=by kernel_rfl
 neB5:=by decide }
open Go.RowKit in
theorem Tryz.strings_Join_none (a : Option Addr) (c : Nat) (sep : ByteArray) (w : World) :
 Calls Tryz.prog 123 #[.slice a 0 c,.string sep] w fun e w'=>e = .returned (.string ⟨#[]⟩) ∧ w' = w:=Any.strings_Join_none Tryz.lays156 Tryz.Builder_Extra_156 a c sep w
open Go.RowKit in
theorem Tryz.strings_Join (bk o c : Nat) (xs : List ByteArray) (sep : ByteArray) (w : World) (hcells : ∀ (j : Nat) x,xs[j]? = some x → w.cell? ⟨bk,o + j,none⟩ = some (.string x)) (hbk : bk < w.heap.size) (hN : xs.length ≤ 140737488355328) (hcap : xs.length ≤ c) (hlen : (Lib.join (xs.map (·.data.toList)) sep.data.toList).length ≤ 140737488355328) :
 Calls Tryz.prog 123 #[.slice (some ⟨bk,o,none⟩) xs.length c,.string sep] w fun e w'=>e = .returned (.string ⟨(Lib.join (xs.map (·.data.toList)) sep.data.toList).toArray⟩) ∧ Below w.heap.size w w':=Any.strings_Join Tryz.lays156 Tryz.Builder_Extra_156 bk o c xs sep w hcells hbk hN hcap hlen
def Tryz.lays119_ren : Go.Shelf.Ren:=⟨fun | 119=>343 | n=>n,fun | 21=>21 | 4=>4 | n=>n,fun | n=>n⟩
theorem Tryz.lays119 : Go.Proofs.Lays.n119 Tryz.prog Tryz.lays119_ren:={
 mixed:=by kernel_rfl
 f119:=Tryz.func343.trans (congrArg some (by kernel_rfl))
 t4:=Tryz.underlying4
 a4:=Tryz.isAgg4
 z4:=Tryz.sizeOf4
 v4:=Tryz.zeroValue4
 t21:=Tryz.underlying21
 a21:=Tryz.isAgg21
 z21:=Tryz.sizeOf21
 v21:=Tryz.zeroValue21 }
theorem Tryz.utf8_ValidRune (r : Int) (w : World) :
 Calls Tryz.prog 343 #[.int .i32 r] w fun e w'=>e = .returned (.bool (Lib.validRune r)) ∧ w' = w:=Any.utf8_ValidRune Tryz.lays119 r w
def Tryz.lays120_ren : Go.Shelf.Ren:=⟨fun | 120=>344 | n=>n,fun | 5=>5 | 4=>4 | n=>n,fun | n=>n⟩
theorem Tryz.lays120 : Go.Proofs.Lays.n120 Tryz.prog Tryz.lays120_ren:={
 mixed:=by kernel_rfl
 f120:=Tryz.func344.trans (congrArg some (by kernel_rfl))
 t4:=Tryz.underlying4
 a4:=Tryz.isAgg4
 z4:=Tryz.sizeOf4
 v4:=Tryz.zeroValue4
 t5:=Tryz.underlying5
 a5:=Tryz.isAgg5
 z5:=Tryz.sizeOf5
 v5:=Tryz.zeroValue5 }
theorem Tryz.utf8_RuneStart (b : Int) (w : World) (h0 : 0 ≤ b) (h1 : b < 256) :
 Calls Tryz.prog 344 #[.int .u8 b] w fun e w'=>e = .returned (.bool (Lib.runeStart b)) ∧ w' = w:=Any.utf8_RuneStart Tryz.lays120 b w h0 h1
def Tryz.lays106_ren : Go.Shelf.Ren:=⟨fun | 106=>165 | 213=>225 | 265=>262 | n=>n,fun | 9=>9 | 3=>3 | n=>n,fun | n=>n⟩
theorem Tryz.lays106 : Go.Proofs.Lays.n106 Tryz.prog Tryz.lays106_ren:={
 mixed:=by kernel_rfl
 f106:=Tryz.func165.trans (congrArg some (by kernel_rfl))
 f213:=Tryz.func225.trans (congrArg some (by kernel_rfl))
 f265:=Tryz.func262.trans (congrArg some (by kernel_rfl))
 t3:=Tryz.underlying3
 a3:=Tryz.isAgg3
 z3:=Tryz.sizeOf3
 v3:=Tryz.zeroValue3
 t9:=Tryz.underlying9
 a9:=Tryz.isAgg9
 z9:=Tryz.sizeOf9
 v9:=Tryz.zeroValue9 }
open Go.RowKit in
theorem Tryz.strings_Compare (a b : ByteArray) (w : World) :
 Calls Tryz.prog 165 #[.string a,.string b] w fun e w'=>e = .returned (.int .i64 (Lib.compareBytes a.data.toList b.data.toList)) ∧ w' = w:=Any.strings_Compare Tryz.lays106 a b w
def Tryz.lays137_ren : Go.Shelf.Ren:=⟨fun | 137=>221 | 217=>259 | 266=>281 | n=>n,fun | 9=>9 | 5=>5 | 3=>3 | n=>n,fun | n=>n⟩
theorem Tryz.lays137 : Go.Proofs.Lays.n137 Tryz.prog Tryz.lays137_ren:={
 mixed:=by kernel_rfl
 f137:=Tryz.func221.trans (congrArg some (by kernel_rfl))
 f217:=Tryz.func259.trans (congrArg some (by kernel_rfl))
 f266:=Tryz.func281.trans (congrArg some (by kernel_rfl))
 t3:=Tryz.underlying3
 a3:=Tryz.isAgg3
 z3:=Tryz.sizeOf3
 v3:=Tryz.zeroValue3
 t5:=Tryz.underlying5
 a5:=Tryz.isAgg5
 z5:=Tryz.sizeOf5
 v5:=Tryz.zeroValue5
 t9:=Tryz.underlying9
 a9:=Tryz.isAgg9
 z9:=Tryz.sizeOf9
 v9:=Tryz.zeroValue9 }
open Go.RowKit in
theorem Tryz.strings_IndexByte (s : ByteArray) (c : Int) (w : World) :
 Calls Tryz.prog 221 #[.string s,.int .u8 c] w fun e w'=>e = .returned (.int .i64 (Lib.indexByte s.data.toList c.toNat.toUInt8)) ∧ w' = w:=Any.strings_IndexByte Tryz.lays137 s c w
def Tryz.lays104_ren : Go.Shelf.Ren:=⟨fun | 104=>303 | 211=>321 | 207=>342 | n=>n,fun | 9=>9 | 4=>4 | 24=>118 | 3=>3 | n=>n,fun | n=>n⟩
theorem Tryz.lays104 : Go.Proofs.Lays.n104 Tryz.prog Tryz.lays104_ren:={
 mixed:=by kernel_rfl
 f104:=Tryz.func303.trans (congrArg some (by kernel_rfl))
 f207:=Tryz.func342.trans (congrArg some (by kernel_rfl))
 f211:=Tryz.func321.trans (congrArg some (by kernel_rfl))
 t3:=Tryz.underlying3
 a3:=Tryz.isAgg3
 z3:=Tryz.sizeOf3
 v3:=Tryz.zeroValue3
 t4:=Tryz.underlying4
 a4:=Tryz.isAgg4
 z4:=Tryz.sizeOf4
 v4:=Tryz.zeroValue4
 t9:=Tryz.underlying9
 a9:=Tryz.isAgg9
 z9:=Tryz.sizeOf9
 v9:=Tryz.zeroValue9
 t24:=Tryz.underlying118
 a24:=Tryz.isAgg118
 z24:=Tryz.sizeOf118
 v24:=Tryz.zeroValue118 }
open Go.RowKit in
theorem Tryz.strings_CutSuffix (s p : ByteArray) (w : World) (hs : s.size ≤ 9223372036854775807) :
 Calls Tryz.prog 303 #[.string s,.string p] w fun e w'=>e = .returned (.tuple #[.string ⟨(Lib.trimSuffix s.data.toList p.data.toList).toArray⟩,.bool (Lib.hasSuffix s.data.toList p.data.toList)]) ∧ w' = w:=Any.strings_CutSuffix Tryz.lays104 s p w hs
def Tryz.laysM173_ren : Go.Shelf.Ren:=⟨fun | 173=>285 | 246=>301 | 283=>316 | 284=>317 | 285=>318 | 286=>319 | 129=>211 | 317=>338 | 318=>339 | 319=>340 | 320=>341 | 337=>352 | 338=>353 | n=>n,fun | 2=>2 | 3=>3 | 9=>9 | 4=>4 | 171=>348 | 0=>0 | 53=>260 | 37=>237 | 5=>5 | 173=>350 | 212=>368 | 51=>258 | 20=>20 | 213=>369 | 46=>192 | 232=>382 | 233=>383 | n=>n,fun | 17=>3 | 18=>7 | 19=>8 | n=>n⟩
theorem Tryz.laysM173 : Go.Proofs.LaysM.n173 Tryz.prog Tryz.laysM173_ren:={
 mixed:=by kernel_rfl
 f129:=Tryz.func211.trans (congrArg some (by kernel_rfl))
 f173:=Tryz.func285.trans (congrArg some (by kernel_rfl))
 f246:=Tryz.func301.trans (congrArg some (by kernel_rfl))
 f283:=Tryz.func316.trans (congrArg some (by kernel_rfl))
 f284:=Tryz.func317.trans (congrArg some (by kernel_rfl))
 f285:=Tryz.func318.trans (congrArg some (by kernel_rfl))
 f286:=Tryz.func319.trans (congrArg some (by kernel_rfl))
 f317:=Tryz.func338.trans (congrArg some (by kernel_rfl))
 f318:=Tryz.func339.trans (congrArg some (by kernel_rfl))
 f319:=Tryz.func340.trans (congrArg some (by kernel_rfl))
 f320:=Tryz.func341.trans (congrArg some (by kernel_rfl))
 f337:=Tryz.func352.trans (congrArg some (by kernel_rfl))
 f338:=Tryz.func353.trans (congrArg some (by kernel_rfl))
 t0:=Tryz.underlying0
 a0:=Tryz.isAgg0
 z0:=Tryz.sizeOf0
 v0:=Tryz.zeroValue0
 t2:=Tryz.underlying2
 a2:=Tryz.isAgg2
 z2:=Tryz.sizeOf2
 v2:=Tryz.zeroValue2
 t3:=Tryz.underlying3
 a3:=Tryz.isAgg3
 z3:=Tryz.sizeOf3
 v3:=Tryz.zeroValue3
 t4:=Tryz.underlying4
 a4:=Tryz.isAgg4
 z4:=Tryz.sizeOf4
 v4:=Tryz.zeroValue4
 t5:=Tryz.underlying5
 a5:=Tryz.isAgg5
 z5:=Tryz.sizeOf5
 v5:=Tryz.zeroValue5
 t9:=Tryz.underlying9
 a9:=Tryz.isAgg9
 z9:=Tryz.sizeOf9
 v9:=Tryz.zeroValue9
 t20:=Tryz.underlying20
 a20:=Tryz.isAgg20
 z20:=Tryz.sizeOf20
 v20:=Tryz.zeroValue20
 t37:=Tryz.underlying237
 a37:=Tryz.isAgg237
 z37:=Tryz.sizeOf237
 v37:=Tryz.zeroValue237
 t46:=Tryz.underlying192
 a46:=Tryz.isAgg192
 z46:=Tryz.sizeOf192
 v46:=Tryz.zeroValue192
 t51:=Tryz.underlying258
 a51:=Tryz.isAgg258
 z51:=Tryz.sizeOf258
 v51:=Tryz.zeroValue258
 t53:=Tryz.underlying260
 a53:=Tryz.isAgg260
 z53:=Tryz.sizeOf260
 v53:=Tryz.zeroValue260
 t171:=Tryz.underlying348
 a171:=Tryz.isAgg348
 z171:=Tryz.sizeOf348
 v171:=Tryz.zeroValue348
 t173:=Tryz.underlying350
 a173:=Tryz.isAgg350
 z173:=Tryz.sizeOf350
 v173:=Tryz.zeroValue350
 t212:=Tryz.underlying368
 a212:=Tryz.isAgg368
 z212:=Tryz.sizeOf368
 v212:=Tryz.zeroValue368
 t213:=Tryz.underlying369
 a213:=Tryz.isAgg369
 z213:=Tryz.sizeOf369
 t232:=Tryz.underlying382
 a232:=Tryz.isAgg382
 z232:=Tryz.sizeOf382
 v232:=Tryz.zeroValue382
 t233:=Tryz.underlying383
 a233:=Tryz.isAgg383
 z233:=Tryz.sizeOf383
 v233:=Tryz.zeroValue383
 g17:=by kernel_rfl
 g18:=by kernel_rfl
 g19:=by kernel_rfl
 i0:=by kernel_rfl
 i2:=by kernel_rfl
 i3:=by kernel_rfl
 i4:=by kernel_rfl
 i5:=by kernel_rfl
 i9:=by kernel_rfl
 i20:=by kernel_rfl
 i37:=by kernel_rfl
 i46:=by kernel_rfl
 i51:=by kernel_rfl
 i53:=by kernel_rfl
 i171:=by kernel_rfl
 i173:=by kernel_rfl
 i212:=by kernel_rfl
 i232:=by kernel_rfl
 i233:=by kernel_rfl
 m17:=by kernel_rfl
 m18:=by kernel_rfl
 m19:=by kernel_rfl }
open Go.RowKit Go.Sort Go.Lib in
theorem Tryz.strconv_FormatInt_10 (n : Int) (h0 : -9223372036854775808 ≤ n) (h1 : n ≤ 9223372036854775807) (w : World) (htab : Lib.TabIs Tryz.prog w "internal/strconv.uint64pow10" .u64 Lib.pow10Tab) :
 Calls Tryz.prog 285 #[.int .i64 n,.int .i64 10] w fun e w'=>e = .returned (.string ⟨(Lib.itoa n).toArray⟩) ∧ ∃ k os,w' = grow (w.drewN k) os:=Any.strconv_FormatInt_10 Tryz.laysM173 n h0 h1 w htab
def Tryz.laysC174_ren : Go.Shelf.Ren:=⟨fun | 174=>284 | 247=>299 | 245=>300 | 287=>311 | 279=>312 | 280=>313 | 281=>314 | 282=>315 | 321=>333 | 322=>334 | 316=>335 | 171=>337 | 205=>336 | 243=>351 | 246=>301 | 283=>316 | 284=>317 | 285=>318 | 286=>319 | 129=>211 | 317=>338 | 318=>339 | 319=>340 | 320=>341 | 337=>352 | 338=>353 | n=>n,fun | 9=>9 | 3=>3 | 2=>2 | 75=>242 | 85=>316 | 4=>4 | 167=>341 | 5=>5 | 53=>260 | 175=>342 | 46=>192 | 168=>344 | 37=>237 | 0=>0 | 210=>365 | 21=>21 | 127=>283 | 145=>375 | 143=>373 | 171=>348 | 173=>350 | 212=>368 | 51=>258 | 20=>20 | 213=>369 | 232=>382 | 233=>383 | 80=>245 | n=>n,fun | 15=>1 | 16=>2 | 17=>3 | 18=>7 | 19=>8 | n=>n⟩
theorem Tryz.laysC174 : Go.Proofs.LaysC.n174 Tryz.prog Tryz.laysC174_ren:={
 mixed:=by kernel_rfl
 f129:=Tryz.func211.trans (congrArg some (by kernel_rfl))
 f171:=Tryz.func337.trans (congrArg some (by kernel_rfl))
 f174:=Tryz.func284.trans (congrArg some (by kernel_rfl))
 f205:=Tryz.func336.trans (congrArg some (by kernel_rfl))
 f243:=Tryz.func351.trans (congrArg some (by kernel_rfl))
 f245:=Tryz.func300.trans (congrArg some (by kernel_rfl))
 f246:=Tryz.func301.trans (congrArg some (by kernel_rfl))
 f247:=Tryz.func299.trans (congrArg some (by kernel_rfl))
 f279:=Tryz.func312.trans (congrArg some (by kernel_rfl))
 f280:=Tryz.func313.trans (congrArg some (by kernel_rfl))
 f281:=Tryz.func314.trans (congrArg some (by kernel_rfl))
 f282:=Tryz.func315.trans (congrArg some (by kernel_rfl))
 f283:=Tryz.func316.trans (congrArg some (by kernel_rfl))
 f284:=Tryz.func317.trans (congrArg some (by kernel_rfl))
 f285:=Tryz.func318.trans (congrArg some (by kernel_rfl))
 f286:=Tryz.func319.trans (congrArg some (by kernel_rfl))
 f287:=Tryz.func311.trans (congrArg some (by kernel_rfl))
 f316:=Tryz.func335.trans (congrArg some (by kernel_rfl))
 f317:=Tryz.func338.trans (congrArg some (by kernel_rfl))
 f318:=Tryz.func339.trans (congrArg some (by kernel_rfl))
 f319:=Tryz.func340.trans (congrArg some (by kernel_rfl))
 f320:=Tryz.func341.trans (congrArg some (by kernel_rfl))
 f321:=Tryz.func333.trans (congrArg some (by kernel_rfl))
 f322:=Tryz.func334.trans (congrArg some (by kernel_rfl))
 f337:=Tryz.func352.trans (congrArg some (by kernel_rfl))
 f338:=Tryz.func353.trans (congrArg some (by kernel_rfl))
 t0:=Tryz.underlying0
 a0:=Tryz.isAgg0
 z0:=Tryz.sizeOf0
 v0:=Tryz.zeroValue0
 t2:=Tryz.underlying2
 a2:=Tryz.isAgg2
 z2:=Tryz.sizeOf2
 v2:=Tryz.zeroValue2
 t3:=Tryz.underlying3
 a3:=Tryz.isAgg3
 z3:=Tryz.sizeOf3
 v3:=Tryz.zeroValue3
 t4:=Tryz.underlying4
 a4:=Tryz.isAgg4
 z4:=Tryz.sizeOf4
 v4:=Tryz.zeroValue4
 t5:=Tryz.underlying5
 a5:=Tryz.isAgg5
 z5:=Tryz.sizeOf5
 v5:=Tryz.zeroValue5
 t9:=Tryz.underlying9
 a9:=Tryz.isAgg9
 z9:=Tryz.sizeOf9
 v9:=Tryz.zeroValue9
 t20:=Tryz.underlying20
 a20:=Tryz.isAgg20
 z20:=Tryz.sizeOf20
 v20:=Tryz.zeroValue20
 t21:=Tryz.underlying21
 a21:=Tryz.isAgg21
 z21:=Tryz.sizeOf21
 v21:=Tryz.zeroValue21
 t37:=Tryz.underlying237
 a37:=Tryz.isAgg237
 z37:=Tryz.sizeOf237
 v37:=Tryz.zeroValue237
 t46:=Tryz.underlying192
 a46:=Tryz.isAgg192
 z46:=Tryz.sizeOf192
 v46:=Tryz.zeroValue192
 t51:=Tryz.underlying258
 a51:=Tryz.isAgg258
 z51:=Tryz.sizeOf258
 v51:=Tryz.zeroValue258
 t53:=Tryz.underlying260
 a53:=Tryz.isAgg260
 z53:=Tryz.sizeOf260
 v53:=Tryz.zeroValue260
 t75:=Tryz.underlying242
 a75:=Tryz.isAgg242
 z75:=Tryz.sizeOf242
 v75:=Tryz.zeroValue242
 t85:=Tryz.underlying316
 a85:=Tryz.isAgg316
 z85:=Tryz.sizeOf316
 v85:=Tryz.zeroValue316
 t127:=Tryz.underlying283
 a127:=Tryz.isAgg283
 z127:=Tryz.sizeOf283
 v127:=Tryz.zeroValue283
 t143:=Tryz.underlying373
 a143:=Tryz.isAgg373
 z143:=Tryz.sizeOf373
 v143:=Tryz.zeroValue373
 t145:=Tryz.underlying375
 a145:=Tryz.isAgg375
 z145:=Tryz.sizeOf375
 v145:=Tryz.zeroValue375
 t167:=Tryz.underlying341
 a167:=Tryz.isAgg341
 z167:=Tryz.sizeOf341
 v167:=Tryz.zeroValue341
 t168:=Tryz.underlying344
 a168:=Tryz.isAgg344
 z168:=Tryz.sizeOf344
 v168:=Tryz.zeroValue344
 t171:=Tryz.underlying348
 a171:=Tryz.isAgg348
 z171:=Tryz.sizeOf348
 v171:=Tryz.zeroValue348
 t173:=Tryz.underlying350
 a173:=Tryz.isAgg350
 z173:=Tryz.sizeOf350
 v173:=Tryz.zeroValue350
 t175:=Tryz.underlying342
 a175:=Tryz.isAgg342
 z175:=Tryz.sizeOf342
 v175:=Tryz.zeroValue342
 t210:=Tryz.underlying365
 a210:=Tryz.isAgg365
 z210:=Tryz.sizeOf365
 v210:=Tryz.zeroValue365
 t212:=Tryz.underlying368
 a212:=Tryz.isAgg368
 z212:=Tryz.sizeOf368
 v212:=Tryz.zeroValue368
 t213:=Tryz.underlying369
 a213:=Tryz.isAgg369
 z213:=Tryz.sizeOf369
 t232:=Tryz.underlying382
 a232:=Tryz.isAgg382
 z232:=Tryz.sizeOf382
 v232:=Tryz.zeroValue382
 t233:=Tryz.underlying383
 a233:=Tryz.isAgg383
 z233:=Tryz.sizeOf383
 v233:=Tryz.zeroValue383
 g15:=by kernel_rfl
 g16:=by kernel_rfl
 g17:=by kernel_rfl
 g18:=by kernel_rfl
 g19:=by kernel_rfl
 t80:=Tryz.underlying245
 a80:=Tryz.isAgg245
 z80:=Tryz.sizeOf245
 v80:=Tryz.zeroValue245
 i0:=by kernel_rfl
 i2:=by kernel_rfl
 i3:=by kernel_rfl
 i4:=by kernel_rfl
 i5:=by kernel_rfl
 i9:=by kernel_rfl
 i20:=by kernel_rfl
 i21:=by kernel_rfl
 i37:=by kernel_rfl
 i46:=by kernel_rfl
 i51:=by kernel_rfl
 i53:=by kernel_rfl
 i75:=by kernel_rfl
 i80:=by kernel_rfl
 i85:=by kernel_rfl
 i127:=by kernel_rfl
 i143:=by kernel_rfl
 i145:=by kernel_rfl
 i167:=by kernel_rfl
 i168:=by kernel_rfl
 i171:=by kernel_rfl
 i173:=by kernel_rfl
 i175:=by kernel_rfl
 i210:=by kernel_rfl
 i212:=by kernel_rfl
 i232:=by kernel_rfl
 i233:=by kernel_rfl
 m15:=by kernel_rfl
 m16:=by kernel_rfl
 m17:=by kernel_rfl
 m18:=by kernel_rfl
 m19:=by kernel_rfl
 c0:=by kernel_rfl
 c2:=by kernel_rfl
 c3:=by kernel_rfl
 c4:=by kernel_rfl
 c5:=by kernel_rfl
 c9:=by kernel_rfl
 c20:=by kernel_rfl
 c21:=by kernel_rfl
 c37:=by kernel_rfl
 c46:=by kernel_rfl
 c51:=by kernel_rfl
 c53:=by kernel_rfl
 c75:=by kernel_rfl
 c80:=by kernel_rfl
 c85:=by kernel_rfl
 c127:=by kernel_rfl
 c143:=by kernel_rfl
 c145:=by kernel_rfl
 c167:=by kernel_rfl
 c168:=by kernel_rfl
 c171:=by kernel_rfl
 c173:=by kernel_rfl
 c175:=by kernel_rfl
 c210:=by kernel_rfl
 c212:=by kernel_rfl
 c213:=by kernel_rfl
 c232:=by kernel_rfl
 c233:=by kernel_rfl }
open Go.RowKit in
theorem Tryz.strconv_ParseInt_10_at64_ok (s : ByteArray) (hmax : s.size ≤ 9223372036854775806) (v : Int) (h : Lib.parseIntB 64 s.data.toList = .ok v) (w : World) :
 Calls Tryz.prog 284 #[.string s,.int .i64 10,.int .i64 64] w fun e w'=>e = .returned (.tuple #[.int .i64 v,.nilIface]) ∧ (w' = w ∨ ∃ t,w' = Lib.bytesWorld w 5 t):=Any.strconv_ParseInt_10_at64_ok Tryz.laysC174 s hmax v h w
open Go.RowKit in
theorem Tryz.strconv_ParseInt_10_at64_range_var (s : ByteArray) (hlim : s.size ≤ 281474976710656) (h : Lib.parseIntB 64 s.data.toList = .range) (tp : TypeId) (p : Value) (w : World) (hvar : w.var? Tryz.prog "strconv.ErrRange" = some #[.iface tp p]) :
 Calls Tryz.prog 284 #[.string s,.int .i64 10,.int .i64 64] w fun e w'=>∃ N,e = .returned (.tuple #[.int .i64 (Lib.intSat 64 s.data.toList),.iface 344 (.pointer (some ⟨N,0,none⟩))]) ∧ w.heap.size ≤ N ∧ w'.heap[N]? = some (.cells #[.string ⟨#[80,97,114,115,101,73,110,116]⟩,.string s,.iface tp p] 365 (0,0)) ∧ Below w.heap.size w w':=Any.strconv_ParseInt_10_at64_range_var Tryz.laysC174 s hlim h tp p w hvar
def Tryz.lays145_ren : Go.Shelf.Ren:=⟨fun | 145=>161 | 220=>220 | 219=>258 | 217=>259 | 225=>278 | 224=>279 | 267=>280 | 266=>281 | 314=>296 | n=>n,fun | 9=>9 | 4=>4 | 59=>210 | 3=>3 | 5=>5 | 46=>192 | 146=>328 | 51=>258 | n=>n,fun | 1=>0 | n=>n⟩
theorem Tryz.lays145 : Go.Proofs.Lays.n145 Tryz.prog Tryz.lays145_ren:={
 mixed:=by kernel_rfl
 f145:=Tryz.func161.trans (congrArg some (by kernel_rfl))
 f217:=Tryz.func259.trans (congrArg some (by kernel_rfl))
 f219:=Tryz.func258.trans (congrArg some (by kernel_rfl))
 f220:=Tryz.func220.trans (congrArg some (by kernel_rfl))
 f224:=Tryz.func279.trans (congrArg some (by kernel_rfl))
 f225:=Tryz.func278.trans (congrArg some (by kernel_rfl))
 f266:=Tryz.func281.trans (congrArg some (by kernel_rfl))
 f267:=Tryz.func280.trans (congrArg some (by kernel_rfl))
 f314:=Tryz.func296.trans (congrArg some (by kernel_rfl))
 t3:=Tryz.underlying3
 a3:=Tryz.isAgg3
 z3:=Tryz.sizeOf3
 v3:=Tryz.zeroValue3
 t4:=Tryz.underlying4
 a4:=Tryz.isAgg4
 z4:=Tryz.sizeOf4
 v4:=Tryz.zeroValue4
 t5:=Tryz.underlying5
 a5:=Tryz.isAgg5
 z5:=Tryz.sizeOf5
 v5:=Tryz.zeroValue5
 t9:=Tryz.underlying9
 a9:=Tryz.isAgg9
 z9:=Tryz.sizeOf9
 v9:=Tryz.zeroValue9
 t46:=Tryz.underlying192
 a46:=Tryz.isAgg192
 z46:=Tryz.sizeOf192
 v46:=Tryz.zeroValue192
 t51:=Tryz.underlying258
 a51:=Tryz.isAgg258
 z51:=Tryz.sizeOf258
 v51:=Tryz.zeroValue258
 t59:=Tryz.underlying210
 a59:=Tryz.isAgg210
 z59:=Tryz.sizeOf210
 v59:=Tryz.zeroValue210
 t146:=Tryz.underlying328
 a146:=Tryz.isAgg328
 z146:=Tryz.sizeOf328
 v146:=Tryz.zeroValue328
 g1:=by kernel_rfl }
open Go.RowKit Go.Lib in
theorem Tryz.strings_Cut (s sep : ByteArray) (m : Int) (w : World) (hs : s.size < 4294967281) (hm : w.cell? ⟨0,0,none⟩ = some (.int .i64 m)) :
 Calls Tryz.prog 161 #[.string s,.string sep] w fun e w'=>e = .returned (.tuple #[.string ⟨(Lib.cut s.data.toList sep.data.toList).1.toArray⟩,.string ⟨(Lib.cut s.data.toList sep.data.toList).2.1.toArray⟩,.bool (Lib.cut s.data.toList sep.data.toList).2.2]) ∧ ∃ n,w' = w.drewN n:=Any.strings_Cut Tryz.lays145 s sep m w hs hm
def Tryz.lays101_ren : Go.Shelf.Ren:=⟨fun | 101=>286 | 208=>302 | 206=>320 | n=>n,fun | 9=>9 | 4=>4 | 3=>3 | n=>n,fun | n=>n⟩
theorem Tryz.lays101 : Go.Proofs.Lays.n101 Tryz.prog Tryz.lays101_ren:={
 mixed:=by kernel_rfl
 f101:=Tryz.func286.trans (congrArg some (by kernel_rfl))
 f206:=Tryz.func320.trans (congrArg some (by kernel_rfl))
 f208:=Tryz.func302.trans (congrArg some (by kernel_rfl))
 t3:=Tryz.underlying3
 a3:=Tryz.isAgg3
 z3:=Tryz.sizeOf3
 v3:=Tryz.zeroValue3
 t4:=Tryz.underlying4
 a4:=Tryz.isAgg4
 z4:=Tryz.sizeOf4
 v4:=Tryz.zeroValue4
 t9:=Tryz.underlying9
 a9:=Tryz.isAgg9
 z9:=Tryz.sizeOf9
 v9:=Tryz.zeroValue9 }
open Go.RowKit Go.Lib in
theorem Tryz.strings_TrimPrefix (s p : ByteArray) (w : World) :
 Calls Tryz.prog 286 #[.string s,.string p] w fun e w'=>e = .returned (.string ⟨(Lib.trimPrefix s.data.toList p.data.toList).toArray⟩) ∧ w' = w:=Any.strings_TrimPrefix Tryz.lays101 s p w
def Tryz.lays146_ren : Go.Shelf.Ren:=⟨fun | 146=>298 | 221=>310 | 268=>332 | 138=>329 | 143=>330 | 195=>348 | 197=>331 | 218=>349 | 219=>258 | 260=>350 | 217=>259 | 225=>278 | 224=>279 | 267=>280 | 266=>281 | 314=>296 | n=>n,fun | 9=>9 | 31=>66 | 3=>3 | 4=>4 | 0=>0 | 105=>358 | 21=>21 | 5=>5 | 46=>192 | 119=>378 | 139=>381 | 138=>380 | 146=>328 | 51=>258 | n=>n,fun | 1=>0 | 3=>5 | 4=>6 | n=>n⟩
theorem Tryz.lays146 : Go.Proofs.Lays.n146 Tryz.prog Tryz.lays146_ren:={
 mixed:=by kernel_rfl
 f138:=Tryz.func329.trans (congrArg some (by kernel_rfl))
 f143:=Tryz.func330.trans (congrArg some (by kernel_rfl))
 f146:=Tryz.func298.trans (congrArg some (by kernel_rfl))
 f195:=Tryz.func348.trans (congrArg some (by kernel_rfl))
 f197:=Tryz.func331.trans (congrArg some (by kernel_rfl))
 f217:=Tryz.func259.trans (congrArg some (by kernel_rfl))
 f218:=Tryz.func349.trans (congrArg some (by kernel_rfl))
 f219:=Tryz.func258.trans (congrArg some (by kernel_rfl))
 f221:=Tryz.func310.trans (congrArg some (by kernel_rfl))
 f224:=Tryz.func279.trans (congrArg some (by kernel_rfl))
 f225:=Tryz.func278.trans (congrArg some (by kernel_rfl))
 f260:=Tryz.func350.trans (congrArg some (by kernel_rfl))
 f266:=Tryz.func281.trans (congrArg some (by kernel_rfl))
 f267:=Tryz.func280.trans (congrArg some (by kernel_rfl))
 f268:=Tryz.func332.trans (congrArg some (by kernel_rfl))
 f314:=Tryz.func296.trans (congrArg some (by kernel_rfl))
 t0:=Tryz.underlying0
 a0:=Tryz.isAgg0
 z0:=Tryz.sizeOf0
 v0:=Tryz.zeroValue0
 t3:=Tryz.underlying3
 a3:=Tryz.isAgg3
 z3:=Tryz.sizeOf3
 v3:=Tryz.zeroValue3
 t4:=Tryz.underlying4
 a4:=Tryz.isAgg4
 z4:=Tryz.sizeOf4
 v4:=Tryz.zeroValue4
 t5:=Tryz.underlying5
 a5:=Tryz.isAgg5
 z5:=Tryz.sizeOf5
 v5:=Tryz.zeroValue5
 t9:=Tryz.underlying9
 a9:=Tryz.isAgg9
 z9:=Tryz.sizeOf9
 v9:=Tryz.zeroValue9
 t21:=Tryz.underlying21
 a21:=Tryz.isAgg21
 z21:=Tryz.sizeOf21
 v21:=Tryz.zeroValue21
 t31:=Tryz.underlying66
 a31:=Tryz.isAgg66
 z31:=Tryz.sizeOf66
 v31:=Tryz.zeroValue66
 t46:=Tryz.underlying192
 a46:=Tryz.isAgg192
 z46:=Tryz.sizeOf192
 v46:=Tryz.zeroValue192
 t51:=Tryz.underlying258
 a51:=Tryz.isAgg258
 z51:=Tryz.sizeOf258
 v51:=Tryz.zeroValue258
 t105:=Tryz.underlying358
 a105:=Tryz.isAgg358
 z105:=Tryz.sizeOf358
 v105:=Tryz.zeroValue358
 t119:=Tryz.underlying378
 a119:=Tryz.isAgg378
 z119:=Tryz.sizeOf378
 t138:=Tryz.underlying380
 a138:=Tryz.isAgg380
 z138:=Tryz.sizeOf380
 v138:=Tryz.zeroValue380
 t139:=Tryz.underlying381
 a139:=Tryz.isAgg381
 z139:=Tryz.sizeOf381
 v139:=Tryz.zeroValue381
 t146:=Tryz.underlying328
 a146:=Tryz.isAgg328
 z146:=Tryz.sizeOf328
 v146:=Tryz.zeroValue328
 g1:=by kernel_rfl
 g3:=by kernel_rfl
 g4:=by kernel_rfl }
open Go.RowKit Go.Lib in
theorem Tryz.strings_Split (s sep : ByteArray) (m : Int) (w : World) (hs : s.size < 4294967281) (hm : w.cell? ⟨0,0,none⟩ = some (.int .i64 m)) (h1 : 1 ≤ sep.size) :
 Calls Tryz.prog 298 #[.string s,.string sep] w fun e w'=>
  e = .returned (.slice (some ⟨w.heap.size,0,none⟩) (Lib.countB s sep + 1) (Lib.countB s sep + 1)) ∧ w' = w.alloc (.cells ((Lib.splitB sep 0 (Lib.countB s sep) s).map Value.string).toArray 9):=Any.strings_Split Tryz.lays146 (by kernel_rfl) s sep m w hs hm h1
def Tryz.lays154_ren : Go.Shelf.Ren:=⟨fun | 154=>309 | 138=>329 | 165=>192 | 143=>330 | 166=>193 | 197=>331 | 169=>194 | 195=>348 | 218=>349 | 240=>242 | 241=>243 | 219=>258 | 260=>350 | 276=>270 | 277=>271 | 217=>259 | 225=>278 | 224=>279 | 267=>280 | 266=>281 | 314=>296 | n=>n,fun | 9=>9 | 3=>3 | 4=>4 | 72=>239 | 0=>0 | 76=>243 | 105=>358 | 21=>21 | 5=>5 | 70=>236 | 20=>20 | 37=>237 | 75=>242 | 127=>283 | 164=>308 | 46=>192 | 119=>378 | 139=>381 | 138=>380 | 146=>328 | 51=>258 | 80=>245 | n=>n,fun | 1=>0 | 3=>5 | 4=>6 | n=>n⟩
theorem Tryz.lays154 : Go.Proofs.Lays.n154 Tryz.prog Tryz.lays154_ren:={
 mixed:=by kernel_rfl
 f138:=Tryz.func329.trans (congrArg some (by kernel_rfl))
 f143:=Tryz.func330.trans (congrArg some (by kernel_rfl))
 f154:=Tryz.func309.trans (congrArg some (by kernel_rfl))
 f165:=Tryz.func192.trans (congrArg some (by kernel_rfl))
 f166:=Tryz.func193.trans (congrArg some (by kernel_rfl))
 f169:=Tryz.func194.trans (congrArg some (by kernel_rfl))
 f195:=Tryz.func348.trans (congrArg some (by kernel_rfl))
 f197:=Tryz.func331.trans (congrArg some (by kernel_rfl))
 f217:=Tryz.func259.trans (congrArg some (by kernel_rfl))
 f218:=Tryz.func349.trans (congrArg some (by kernel_rfl))
 f219:=Tryz.func258.trans (congrArg some (by kernel_rfl))
 f224:=Tryz.func279.trans (congrArg some (by kernel_rfl))
 f225:=Tryz.func278.trans (congrArg some (by kernel_rfl))
 f240:=Tryz.func242.trans (congrArg some (by kernel_rfl))
 f241:=Tryz.func243.trans (congrArg some (by kernel_rfl))
 f260:=Tryz.func350.trans (congrArg some (by kernel_rfl))
 f266:=Tryz.func281.trans (congrArg some (by kernel_rfl))
 f267:=Tryz.func280.trans (congrArg some (by kernel_rfl))
 f276:=Tryz.func270.trans (congrArg some (by kernel_rfl))
 f277:=Tryz.func271.trans (congrArg some (by kernel_rfl))
 f314:=Tryz.func296.trans (congrArg some (by kernel_rfl))
 t0:=Tryz.underlying0
 a0:=Tryz.isAgg0
 z0:=Tryz.sizeOf0
 v0:=Tryz.zeroValue0
 t3:=Tryz.underlying3
 a3:=Tryz.isAgg3
 z3:=Tryz.sizeOf3
 v3:=Tryz.zeroValue3
 t4:=Tryz.underlying4
 a4:=Tryz.isAgg4
 z4:=Tryz.sizeOf4
 v4:=Tryz.zeroValue4
 t5:=Tryz.underlying5
 a5:=Tryz.isAgg5
 z5:=Tryz.sizeOf5
 v5:=Tryz.zeroValue5
 t9:=Tryz.underlying9
 a9:=Tryz.isAgg9
 z9:=Tryz.sizeOf9
 v9:=Tryz.zeroValue9
 t20:=Tryz.underlying20
 a20:=Tryz.isAgg20
 z20:=Tryz.sizeOf20
 v20:=Tryz.zeroValue20
 t21:=Tryz.underlying21
 a21:=Tryz.isAgg21
 z21:=Tryz.sizeOf21
 v21:=Tryz.zeroValue21
 t37:=Tryz.underlying237
 a37:=Tryz.isAgg237
 z37:=Tryz.sizeOf237
 v37:=Tryz.zeroValue237
 t46:=Tryz.underlying192
 a46:=Tryz.isAgg192
 z46:=Tryz.sizeOf192
 v46:=Tryz.zeroValue192
 t51:=Tryz.underlying258
 a51:=Tryz.isAgg258
 z51:=Tryz.sizeOf258
 v51:=Tryz.zeroValue258
 t70:=Tryz.underlying236
 a70:=Tryz.isAgg236
 z70:=Tryz.sizeOf236
 v70:=Tryz.zeroValue236
 t72:=Tryz.underlying239
 a72:=Tryz.isAgg239
 z72:=Tryz.sizeOf239
 v72:=Tryz.zeroValue239
 t75:=Tryz.underlying242
 a75:=Tryz.isAgg242
 z75:=Tryz.sizeOf242
 v75:=Tryz.zeroValue242
 t76:=Tryz.underlying243
 a76:=Tryz.isAgg243
 z76:=Tryz.sizeOf243
 v76:=Tryz.zeroValue243
 t105:=Tryz.underlying358
 a105:=Tryz.isAgg358
 z105:=Tryz.sizeOf358
 v105:=Tryz.zeroValue358
 t119:=Tryz.underlying378
 a119:=Tryz.isAgg378
 z119:=Tryz.sizeOf378
 t127:=Tryz.underlying283
 a127:=Tryz.isAgg283
 z127:=Tryz.sizeOf283
 v127:=Tryz.zeroValue283
 t138:=Tryz.underlying380
 a138:=Tryz.isAgg380
 z138:=Tryz.sizeOf380
 v138:=Tryz.zeroValue380
 t139:=Tryz.underlying381
 a139:=Tryz.isAgg381
 z139:=Tryz.sizeOf381
 v139:=Tryz.zeroValue381
 t146:=Tryz.underlying328
 a146:=Tryz.isAgg328
 z146:=Tryz.sizeOf328
 v146:=Tryz.zeroValue328
 t164:=Tryz.underlying308
 a164:=Tryz.isAgg308
 z164:=Tryz.sizeOf308
 v164:=Tryz.zeroValue308
 g1:=by kernel_rfl
 g3:=by kernel_rfl
 g4:=by kernel_rfl }
theorem Tryz.Builder_Extra_154 : Builder.Extra Tryz.prog Tryz.lays154_ren:={
 sizeBuilder:=by kernel_rfl
 liesBuilder:=by kernel_rfl
 t5:=Tryz.underlying5
 a5:=Tryz.isAgg5
 z5:=Tryz.sizeOf5
 v5:=Tryz.zeroValue5
 infoByte:=by kernel_rfl
 cellsByte:=by kernel_rfl
 sizeByte:=by kernel_rfl
 neB5:=by decide }
open Go.RowKit Go.Lib in
theorem Tryz.strings_Replace (s old new : ByteArray) (n : Int) (m : Int) (w : World) (hs : s.size < 4294967281) (hm : w.cell? ⟨0,0,none⟩ = some (.int .i64 m)) (h1 : 1 ≤ old.size) (hlen : s.size + Lib.countB s old * new.size ≤ 140737488355328) :
 Calls Tryz.prog 309 #[.string s,.string old,.string new,.int .i64 n] w fun e w'=>
  e = .returned (.string ⟨(Lib.replace s.data.toList old.data.toList new.data.toList n).toArray⟩) ∧ Below w.heap.size w w':=Any.strings_Replace Tryz.lays154 Tryz.Builder_Extra_154 s old new n m w hs hm h1 hlen
def Tryz.lays152_ren : Go.Shelf.Ren:=⟨fun | 152=>322 | 137=>221 | 119=>343 | 224=>279 | 225=>278 | 217=>259 | 266=>281 | n=>n,fun | 9=>9 | 21=>21 | 3=>3 | 4=>4 | 5=>5 | 0=>0 | 46=>192 | n=>n,fun | n=>n⟩
theorem Tryz.lays152 : Go.Proofs.Lays.n152 Tryz.prog Tryz.lays152_ren:={
 mixed:=by kernel_rfl
 f119:=Tryz.func343.trans (congrArg some (by kernel_rfl))
 f137:=Tryz.func221.trans (congrArg some (by kernel_rfl))
 f152:=Tryz.func322.trans (congrArg some (by kernel_rfl))
 f217:=Tryz.func259.trans (congrArg some (by kernel_rfl))
 f224:=Tryz.func279.trans (congrArg some (by kernel_rfl))
 f225:=Tryz.func278.trans (congrArg some (by kernel_rfl))
 f266:=Tryz.func281.trans (congrArg some (by kernel_rfl))
 t0:=Tryz.underlying0
 a0:=Tryz.isAgg0
 z0:=Tryz.sizeOf0
 v0:=Tryz.zeroValue0
 t3:=Tryz.underlying3
 a3:=Tryz.isAgg3
 z3:=Tryz.sizeOf3
 v3:=Tryz.zeroValue3
 t4:=Tryz.underlying4
 a4:=Tryz.isAgg4
 z4:=Tryz.sizeOf4
 v4:=Tryz.zeroValue4
 t5:=Tryz.underlying5
 a5:=Tryz.isAgg5
 z5:=Tryz.sizeOf5
 v5:=Tryz.zeroValue5
 t9:=Tryz.underlying9
 a9:=Tryz.isAgg9
 z9:=Tryz.sizeOf9
 v9:=Tryz.zeroValue9
 t21:=Tryz.underlying21
 a21:=Tryz.isAgg21
 z21:=Tryz.sizeOf21
 v21:=Tryz.zeroValue21
 t46:=Tryz.underlying192
 a46:=Tryz.isAgg192
 z46:=Tryz.sizeOf192
 v46:=Tryz.zeroValue192 }
open Go.RowKit Go.Lib in
theorem Tryz.strings_IndexRune_ascii (s : ByteArray) (r : Int) (w : World) (h0 : 0 ≤ r) (h1 : r < 128) :
 Calls Tryz.prog 322 #[.string s,.int .i32 r] w fun e w'=>e = .returned (.int .i64 (Lib.indexByte s.data.toList r.toNat.toUInt8)) ∧ w' = w:=Any.strings_IndexRune_ascii Tryz.lays152 s r w h0 h1
def Tryz.lays226_ren : Go.Shelf.Ren:=⟨fun | 226=>323 | n=>n,fun | 3=>3 | 4=>4 | n=>n,fun | n=>n⟩
theorem Tryz.lays226 : Go.Proofs.Lays.n226 Tryz.prog Tryz.lays226_ren:={
 mixed:=by kernel_rfl
 f226:=Tryz.func323.trans (congrArg some (by kernel_rfl))
 t3:=Tryz.underlying3
 a3:=Tryz.isAgg3
 z3:=Tryz.sizeOf3
 v3:=Tryz.zeroValue3
 t4:=Tryz.underlying4
 a4:=Tryz.isAgg4
 z4:=Tryz.sizeOf4
 v4:=Tryz.zeroValue4 }
open Go.RowKit Go.Lib in
theorem Tryz.strings_shouldUseASCIISet (n : Int) (w : World) :
 Calls Tryz.prog 323 #[.int .i64 n] w fun e w'=>e = .returned (.bool (decide (8 < n))) ∧ w' = w:=Any.strings_shouldUseASCIISet Tryz.lays226 n w
def Tryz.lays227_ren : Go.Shelf.Ren:=⟨fun | 227=>324 | n=>n,fun | 9=>9 | 116=>355 | 4=>4 | 0=>0 | 3=>3 | 5=>5 | n=>n,fun | n=>n⟩
theorem Tryz.lays227 : Go.Proofs.Lays.n227 Tryz.prog Tryz.lays227_ren:={
 mixed:=by kernel_rfl
 f227:=Tryz.func324.trans (congrArg some (by kernel_rfl))
 t0:=Tryz.underlying0
 a0:=Tryz.isAgg0
 z0:=Tryz.sizeOf0
 v0:=Tryz.zeroValue0
 t3:=Tryz.underlying3
 a3:=Tryz.isAgg3
 z3:=Tryz.sizeOf3
 v3:=Tryz.zeroValue3
 t4:=Tryz.underlying4
 a4:=Tryz.isAgg4
 z4:=Tryz.sizeOf4
 v4:=Tryz.zeroValue4
 t5:=Tryz.underlying5
 a5:=Tryz.isAgg5
 z5:=Tryz.sizeOf5
 v5:=Tryz.zeroValue5
 t9:=Tryz.underlying9
 a9:=Tryz.isAgg9
 z9:=Tryz.sizeOf9
 v9:=Tryz.zeroValue9
 t116:=Tryz.underlying355
 a116:=Tryz.isAgg355
 z116:=Tryz.sizeOf355 }
open Go.RowKit Go.Lib in
theorem Tryz.strings_makeASCIISet (hv116 : ∀ w,(zeroValue 355).run Tryz.prog w = .ok (.agg (Array.replicate 256 (.bool false))) w) (chars : ByteArray) (w : World) (hs : chars.size < 4294967281) (hascii : ∀ (j : Nat) b,chars.data.toList[j]? = some b → b.toNat < 128) :
 Calls Tryz.prog 324 #[.string chars] w fun e w'=>e = .returned (.tuple #[.agg (Lib.setCells chars.data.toList),.bool true]) ∧ w' = w.alloc (.cells (Lib.setCells chars.data.toList) 355):=Any.strings_makeASCIISet Tryz.lays227 hv116 (by kernel_rfl) chars w hs hascii
def Tryz.lays228_ren : Go.Shelf.Ren:=⟨fun | 228=>325 | n=>n,fun | 124=>371 | 5=>5 | 4=>4 | 0=>0 | 116=>355 | n=>n,fun | n=>n⟩
theorem Tryz.lays228 : Go.Proofs.Lays.n228 Tryz.prog Tryz.lays228_ren:={
 mixed:=by kernel_rfl
 f228:=Tryz.func325.trans (congrArg some (by kernel_rfl))
 t0:=Tryz.underlying0
 a0:=Tryz.isAgg0
 z0:=Tryz.sizeOf0
 v0:=Tryz.zeroValue0
 t4:=Tryz.underlying4
 a4:=Tryz.isAgg4
 z4:=Tryz.sizeOf4
 v4:=Tryz.zeroValue4
 t5:=Tryz.underlying5
 a5:=Tryz.isAgg5
 z5:=Tryz.sizeOf5
 v5:=Tryz.zeroValue5
 t116:=Tryz.underlying355
 a116:=Tryz.isAgg355
 z116:=Tryz.sizeOf355
 t124:=Tryz.underlying371
 a124:=Tryz.isAgg371
 z124:=Tryz.sizeOf371
 v124:=Tryz.zeroValue371 }
open Go.RowKit Go.Lib in
theorem Tryz.asciiSet_contains (b : Nat) (x : UInt8) (v : Bool) (w : World) (hc : w.cell? ⟨b,x.toNat,none⟩ = some (.bool v)) :
 Calls Tryz.prog 325 #[.pointer (some ⟨b,0,none⟩),.int .u8 x.toNat] w fun e w'=>e = .returned (.bool v) ∧ w' = w:=Any.asciiSet_contains Tryz.lays228 b x v w hc
def Tryz.lays260_ren : Go.Shelf.Ren:=⟨fun | 260=>350 | n=>n,fun | 9=>9 | 21=>21 | 3=>3 | 4=>4 | 5=>5 | 119=>378 | 0=>0 | 46=>192 | 139=>381 | 138=>380 | n=>n,fun | 3=>5 | 4=>6 | n=>n⟩
theorem Tryz.lays260 : Go.Proofs.Lays.n260 Tryz.prog Tryz.lays260_ren:={
 mixed:=by kernel_rfl
 f260:=Tryz.func350.trans (congrArg some (by kernel_rfl))
 t0:=Tryz.underlying0
 a0:=Tryz.isAgg0
 z0:=Tryz.sizeOf0
 v0:=Tryz.zeroValue0
 t3:=Tryz.underlying3
 a3:=Tryz.isAgg3
 z3:=Tryz.sizeOf3
 v3:=Tryz.zeroValue3
 t4:=Tryz.underlying4
 a4:=Tryz.isAgg4
 z4:=Tryz.sizeOf4
 v4:=Tryz.zeroValue4
 t5:=Tryz.underlying5
 a5:=Tryz.isAgg5
 z5:=Tryz.sizeOf5
 v5:=Tryz.zeroValue5
 t9:=Tryz.underlying9
 a9:=Tryz.isAgg9
 z9:=Tryz.sizeOf9
 v9:=Tryz.zeroValue9
 t21:=Tryz.underlying21
 a21:=Tryz.isAgg21
 z21:=Tryz.sizeOf21
 v21:=Tryz.zeroValue21
 t46:=Tryz.underlying192
 a46:=Tryz.isAgg192
 z46:=Tryz.sizeOf192
 v46:=Tryz.zeroValue192
 t119:=Tryz.underlying378
 a119:=Tryz.isAgg378
 z119:=Tryz.sizeOf378
 t138:=Tryz.underlying380
 a138:=Tryz.isAgg380
 z138:=Tryz.sizeOf380
 v138:=Tryz.zeroValue380
 t139:=Tryz.underlying381
 a139:=Tryz.isAgg381
 z139:=Tryz.sizeOf381
 v139:=Tryz.zeroValue381
 g3:=by kernel_rfl
 g4:=by kernel_rfl }
open Go.RowKit Go.Lib in
theorem Tryz.utf8_decodeRuneInStringSlow (s : ByteArray) (w : World) (hT : Lib.Utf8Tabs 5 6 w) :
 Calls Tryz.prog 350 #[.string s] w fun e w'=>e = .returned (.tuple #[.int .i32 (Lib.decodeGo s).1,.int .i64 (Lib.decodeGo s).2]) ∧ Below w.heap.size w w':=Any.utf8_decodeRuneInStringSlow Tryz.lays260 s w hT
end Go.Proofs
