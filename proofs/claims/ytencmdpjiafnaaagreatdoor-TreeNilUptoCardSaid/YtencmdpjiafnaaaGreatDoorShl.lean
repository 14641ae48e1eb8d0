/-
  DERIVED: THE SHELF's CONTRACTS AT THIS DUMP, IN PLAIN WORDS (tools/lay-plain.mjs out of 'TryzShelf.lean', which tools/lay-shelf.mjs wrote): THE SAME DECLARATIONS UNDER THE SAME NAMES: 'import', 'namespace', 'open', 'def', 'theorem' AND NOTHING ELSE: no command of the shelf's: FOR A HAND-IN. Each laying: the table of numbers ('.._ren') and one theorem, a field a fact of the dump's own or the kernel's comparison; each contract: ONE APPLICATION.
-/
import Derived.Shelf.Strings.Builder1
import Derived.Shelf.Strings.Builder2
import Derived.Shelf.Strings.OnBuilder
import Derived.Shelf.Small.Utf8
import Derived.Shelf.Small.Strs
import Derived.Shelf.Small.Wraps
import Derived.Shelf.Strings.BuilderF
import Derived.Shelf.Strings.BuilderK
import Derived.Shelf.Strconv.Itoa0
import Derived.Shelf.Strconv.Itoa1
import Derived.Shelf.LaysM
import Derived.Shelf.Strconv.Itoa2
import Derived.Shelf.Strconv.Itoa3
import Derived.Shelf.Strconv.Itoa4
import Derived.Shelf.Strconv.ParseIntEmpty
import Derived.Shelf.Strconv.Clone
import Derived.Shelf.Strconv.SyntaxError
import Derived.Shelf.LaysC
import Derived.Shelf.Strconv.ToError
import Derived.Shelf.Strconv.Lower
import Derived.Shelf.Strconv.ParseUint10
import Derived.Shelf.Strconv.ParseUint10Empty
import Derived.Shelf.Strconv.ParseUint10Any
import Derived.Shelf.Strconv.ParseInt10
import Derived.Shelf.Strconv.RangeError
import Derived.Shelf.Strconv.ToErrorRange
import Derived.Shelf.Strconv.ParseUintEmpty
import Derived.Shelf.Strconv.ParseUint10b64
import Derived.Shelf.Strconv.ParseUint10b32
import Derived.Shelf.Strconv.ParseUint10b16
import Derived.Shelf.Strconv.ParseUint10b8
import Derived.Shelf.Strconv.ParseUint10At
import Derived.Shelf.Strconv.ParseInt10At64
import Derived.Shelf.Strconv.ParseInt10At32
import Derived.Shelf.Strconv.ParseInt10At16
import Derived.Shelf.Strconv.ParseInt10At8
import Derived.Shelf.Strconv.ParseInt10All
import Derived.Shelf.Strconv.ParseIntPublic10
import Derived.Shelf.Strconv.ErrVarParseInt
import Derived.Shelf.Strings.Search1
import Derived.Shelf.Strings.Search2
import Derived.Shelf.Strings.Search3
import Derived.Shelf.Strings.Cut
import Derived.Shelf.Strings.Count
import Derived.Shelf.Strings.Shaped
import Derived.Shelf.Strings.Prefix
import Derived.Shelf.Strings.Split
import Derived.Shelf.Strings.Replace
import Derived.Shelf.Strings.SplitShaped
import Derived.Shelf.Strings.Runes
import Derived.Shelf.Strings.IndexAny
import Derived.Shelf.Strings.AsciiSet
import Derived.Shelf.Unicode.DecodeSlow
import Derived.Shelf.Slices.Equal
import Derived.Ground.Names2Prog
import Derived.Shelf.Slices.Clone
import Derived.Test.YtencmdpjiafnaaaGreatDoorProg
namespace Go.Proofs
open Go.Shelf
def Tryz.lays169_ren : Go.Shelf.Ren := ⟨fun | 169 => 110 | n => n, fun | 70 => 140 | 9 => 9 | 0 => 0 | 72 => 143 | 37 => 141 | 127 => 197 | 3 => 3 | 5 => 5 | n => n, fun | n => n⟩
theorem Tryz.lays169 : Go.Proofs.Lays.n169 Tryz.prog Tryz.lays169_ren := {
  mixed := by kernel_rfl
  f169 := Tryz.func110.trans (congrArg some (by kernel_rfl))
  t0 := Tryz.underlying0
  a0 := Tryz.isAgg0
  z0 := Tryz.sizeOf0
  v0 := Tryz.zeroValue0
  t3 := Tryz.underlying3
  a3 := Tryz.isAgg3
  z3 := Tryz.sizeOf3
  v3 := Tryz.zeroValue3
  t9 := Tryz.underlying9
  a9 := Tryz.isAgg9
  z9 := Tryz.sizeOf9
  v9 := Tryz.zeroValue9
  t37 := Tryz.underlying141
  a37 := Tryz.isAgg141
  z37 := Tryz.sizeOf141
  v37 := Tryz.zeroValue141
  t70 := Tryz.underlying140
  a70 := Tryz.isAgg140
  z70 := Tryz.sizeOf140
  v70 := Tryz.zeroValue140
  t72 := Tryz.underlying143
  a72 := Tryz.isAgg143
  z72 := Tryz.sizeOf143
  v72 := Tryz.zeroValue143
  t127 := Tryz.underlying197
  a127 := Tryz.isAgg197
  z127 := Tryz.sizeOf197
  v127 := Tryz.zeroValue197 }
theorem Tryz.Builder_Extra_169 : Builder.Extra Tryz.prog Tryz.lays169_ren := {
  sizeBuilder := by kernel_rfl
  liesBuilder := by kernel_rfl
  t5 := Tryz.underlying5
  a5 := Tryz.isAgg5
  z5 := Tryz.sizeOf5
  v5 := Tryz.zeroValue5
  infoByte := by kernel_rfl
  cellsByte := by kernel_rfl
  sizeByte := by kernel_rfl
  neB5 := by decide }
open Go.RowKit in
/-- (*strings.Builder).String: "String returns the accumulated string.": WHATEVER THE BUILDER HOLDS. (LAID: no walk: one application.) -/
theorem Tryz.Builder_String_any (B b : Nat) (l : List UInt8) (w : World) (h : Lib.IsBuilder 143 5 B b (Lib.byteCells l) w) (hBw : B ≤ w.heap.size) :
    Calls Tryz.prog 110 #[.pointer (some ⟨b, 0, none⟩)] w fun e w' => e = .returned (.string ⟨l.toArray⟩) ∧ Below B w w' := Any.Builder_String_any Tryz.lays169 Tryz.Builder_Extra_169 B b l w h hBw
def Tryz.lays156_ren : Go.Shelf.Ren := ⟨fun | 156 => 61 | 165 => 108 | 166 => 109 | 169 => 110 | 240 => 163 | 241 => 164 | 276 => 192 | 277 => 193 | n => n, fun | 31 => 43 | 9 => 9 | 3 => 3 | 4 => 4 | 0 => 0 | 20 => 20 | 72 => 143 | 76 => 147 | 70 => 140 | 37 => 141 | 75 => 146 | 127 => 197 | 164 => 221 | 5 => 5 | 80 => 149 | n => n, fun | n => n⟩
theorem Tryz.lays156 : Go.Proofs.Lays.n156 Tryz.prog Tryz.lays156_ren := {
  mixed := by kernel_rfl
  f156 := Tryz.func61.trans (congrArg some (by kernel_rfl))
  f165 := Tryz.func108.trans (congrArg some (by kernel_rfl))
  f166 := Tryz.func109.trans (congrArg some (by kernel_rfl))
  f169 := Tryz.func110.trans (congrArg some (by kernel_rfl))
  f240 := Tryz.func163.trans (congrArg some (by kernel_rfl))
  f241 := Tryz.func164.trans (congrArg some (by kernel_rfl))
  f276 := Tryz.func192.trans (congrArg some (by kernel_rfl))
  f277 := Tryz.func193.trans (congrArg some (by kernel_rfl))
  t0 := Tryz.underlying0
  a0 := Tryz.isAgg0
  z0 := Tryz.sizeOf0
  v0 := Tryz.zeroValue0
  t3 := Tryz.underlying3
  a3 := Tryz.isAgg3
  z3 := Tryz.sizeOf3
  v3 := Tryz.zeroValue3
  t4 := Tryz.underlying4
  a4 := Tryz.isAgg4
  z4 := Tryz.sizeOf4
  v4 := Tryz.zeroValue4
  t9 := Tryz.underlying9
  a9 := Tryz.isAgg9
  z9 := Tryz.sizeOf9
  v9 := Tryz.zeroValue9
  t20 := Tryz.underlying20
  a20 := Tryz.isAgg20
  z20 := Tryz.sizeOf20
  v20 := Tryz.zeroValue20
  t31 := Tryz.underlying43
  a31 := Tryz.isAgg43
  z31 := Tryz.sizeOf43
  v31 := Tryz.zeroValue43
  t37 := Tryz.underlying141
  a37 := Tryz.isAgg141
  z37 := Tryz.sizeOf141
  v37 := Tryz.zeroValue141
  t70 := Tryz.underlying140
  a70 := Tryz.isAgg140
  z70 := Tryz.sizeOf140
  v70 := Tryz.zeroValue140
  t72 := Tryz.underlying143
  a72 := Tryz.isAgg143
  z72 := Tryz.sizeOf143
  v72 := Tryz.zeroValue143
  t75 := Tryz.underlying146
  a75 := Tryz.isAgg146
  z75 := Tryz.sizeOf146
  v75 := Tryz.zeroValue146
  t76 := Tryz.underlying147
  a76 := Tryz.isAgg147
  z76 := Tryz.sizeOf147
  v76 := Tryz.zeroValue147
  t127 := Tryz.underlying197
  a127 := Tryz.isAgg197
  z127 := Tryz.sizeOf197
  v127 := Tryz.zeroValue197
  t164 := Tryz.underlying221
  a164 := Tryz.isAgg221
  z164 := Tryz.sizeOf221
  v164 := Tryz.zeroValue221 }
theorem Tryz.Builder_Extra_156 : Builder.Extra Tryz.prog Tryz.lays156_ren := {
  sizeBuilder := by kernel_rfl
  liesBuilder := by kernel_rfl
  t5 := Tryz.underlying5
  a5 := Tryz.isAgg5
  z5 := Tryz.sizeOf5
  v5 := Tryz.zeroValue5
  infoByte := by kernel_rfl
  cellsByte := by kernel_rfl
  sizeByte := by kernel_rfl
  neB5 := by decide }
open Go.RowKit in
/-- No element: the empty string; the world is as it was. (Whatever the slice's address and capacity: a nil slice too.) (LAID: no walk: one application.) -/
theorem Tryz.strings_Join_none (a : Option Addr) (c : Nat) (sep : ByteArray) (w : World) :
    Calls Tryz.prog 61 #[.slice a 0 c, .string sep] w fun e w' => e = .returned (.string ⟨#[]⟩) ∧ w' = w := Any.strings_Join_none Tryz.lays156 Tryz.Builder_Extra_156 a c sep w
open Go.RowKit in
/-- strings.Join: "Join concatenates the elements of its first argument to create a single string. The separator string sep is placed between elements in the resulting string.": HOWEVER MANY ELEMENTS. Below the heap's end the world is as it was. (LAID: no walk: one application.) -/
theorem Tryz.strings_Join (bk o c : Nat) (xs : List ByteArray) (sep : ByteArray) (w : World) (hcells : ∀ (j : Nat) x, xs[j]? = some x → w.cell? ⟨bk, o + j, none⟩ = some (.string x)) (hbk : bk < w.heap.size) (hN : xs.length ≤ 140737488355328) (hcap : xs.length ≤ c) (hlen : (Lib.join (xs.map (·.data.toList)) sep.data.toList).length ≤ 140737488355328) :
    Calls Tryz.prog 61 #[.slice (some ⟨bk, o, none⟩) xs.length c, .string sep] w fun e w' => e = .returned (.string ⟨(Lib.join (xs.map (·.data.toList)) sep.data.toList).toArray⟩) ∧ Below w.heap.size w w' := Any.strings_Join Tryz.lays156 Tryz.Builder_Extra_156 bk o c xs sep w hcells hbk hN hcap hlen
def Tryz.lays106_ren : Go.Shelf.Ren := ⟨fun | 106 => 139 | 213 => 182 | 265 => 209 | n => n, fun | 9 => 9 | 3 => 3 | n => n, fun | n => n⟩
theorem Tryz.lays106 : Go.Proofs.Lays.n106 Tryz.prog Tryz.lays106_ren := {
  mixed := by kernel_rfl
  f106 := Tryz.func139.trans (congrArg some (by kernel_rfl))
  f213 := Tryz.func182.trans (congrArg some (by kernel_rfl))
  f265 := Tryz.func209.trans (congrArg some (by kernel_rfl))
  t3 := Tryz.underlying3
  a3 := Tryz.isAgg3
  z3 := Tryz.sizeOf3
  v3 := Tryz.zeroValue3
  t9 := Tryz.underlying9
  a9 := Tryz.isAgg9
  z9 := Tryz.sizeOf9
  v9 := Tryz.zeroValue9 }
open Go.RowKit in
/-- strings.Compare: "Compare returns an integer comparing two strings lexicographically. The result will be 0 if a == b, -1 if a < b, and +1 if a > b.": IT RETURNS 'Lib.compareBytes a b'; the world is as it was. (LAID: no walk: one application.) -/
theorem Tryz.strings_Compare (a b : ByteArray) (w : World) :
    Calls Tryz.prog 139 #[.string a, .string b] w fun e w' => e = .returned (.int .i64 (Lib.compareBytes a.data.toList b.data.toList)) ∧ w' = w := Any.strings_Compare Tryz.lays106 a b w
def Tryz.lays137_ren : Go.Shelf.Ren := ⟨fun | 137 => 179 | 217 => 206 | 266 => 229 | n => n, fun | 9 => 9 | 5 => 5 | 3 => 3 | n => n, fun | n => n⟩
theorem Tryz.lays137 : Go.Proofs.Lays.n137 Tryz.prog Tryz.lays137_ren := {
  mixed := by kernel_rfl
  f137 := Tryz.func179.trans (congrArg some (by kernel_rfl))
  f217 := Tryz.func206.trans (congrArg some (by kernel_rfl))
  f266 := Tryz.func229.trans (congrArg some (by kernel_rfl))
  t3 := Tryz.underlying3
  a3 := Tryz.isAgg3
  z3 := Tryz.sizeOf3
  v3 := Tryz.zeroValue3
  t5 := Tryz.underlying5
  a5 := Tryz.isAgg5
  z5 := Tryz.sizeOf5
  v5 := Tryz.zeroValue5
  t9 := Tryz.underlying9
  a9 := Tryz.isAgg9
  z9 := Tryz.sizeOf9
  v9 := Tryz.zeroValue9 }
open Go.RowKit in
/-- strings.IndexByte: "IndexByte returns the index of the first instance of c in s, or -1 if c is not present in s.": IT RETURNS 'Lib.indexByte s c'; the world is as it was. (LAID: no walk: one application.) -/
theorem Tryz.strings_IndexByte (s : ByteArray) (c : Int) (w : World) :
    Calls Tryz.prog 179 #[.string s, .int .u8 c] w fun e w' => e = .returned (.int .i64 (Lib.indexByte s.data.toList c.toNat.toUInt8)) ∧ w' = w := Any.strings_IndexByte Tryz.lays137 s c w
def Tryz.lays104_ren : Go.Shelf.Ren := ⟨fun | 104 => 219 | 211 => 243 | 207 => 267 | n => n, fun | 9 => 9 | 4 => 4 | 24 => 66 | 3 => 3 | n => n, fun | n => n⟩
theorem Tryz.lays104 : Go.Proofs.Lays.n104 Tryz.prog Tryz.lays104_ren := {
  mixed := by kernel_rfl
  f104 := Tryz.func219.trans (congrArg some (by kernel_rfl))
  f207 := Tryz.func267.trans (congrArg some (by kernel_rfl))
  f211 := Tryz.func243.trans (congrArg some (by kernel_rfl))
  t3 := Tryz.underlying3
  a3 := Tryz.isAgg3
  z3 := Tryz.sizeOf3
  v3 := Tryz.zeroValue3
  t4 := Tryz.underlying4
  a4 := Tryz.isAgg4
  z4 := Tryz.sizeOf4
  v4 := Tryz.zeroValue4
  t9 := Tryz.underlying9
  a9 := Tryz.isAgg9
  z9 := Tryz.sizeOf9
  v9 := Tryz.zeroValue9
  t24 := Tryz.underlying66
  a24 := Tryz.isAgg66
  z24 := Tryz.sizeOf66
  v24 := Tryz.zeroValue66 }
open Go.RowKit in
/-- strings.CutSuffix: "CutSuffix returns s without the provided ending suffix string and reports whether it found the suffix. If s doesn't end with suffix, CutSuffix returns s, false. If suffix is the empty string, CutSuffix returns s, true.": IT RETURNS '(Lib.trimSuffix s p, Lib.hasSuffix s p)'; the world is as it was. (LAID: no walk: one application.) -/
theorem Tryz.strings_CutSuffix (s p : ByteArray) (w : World) (hs : s.size ≤ 9223372036854775807) :
    Calls Tryz.prog 219 #[.string s, .string p] w fun e w' => e = .returned (.tuple #[.string ⟨(Lib.trimSuffix s.data.toList p.data.toList).toArray⟩, .bool (Lib.hasSuffix s.data.toList p.data.toList)]) ∧ w' = w := Any.strings_CutSuffix Tryz.lays104 s p w hs
def Tryz.laysM173_ren : Go.Shelf.Ren := ⟨fun | 173 => 200 | 246 => 218 | 283 => 239 | 284 => 240 | 285 => 241 | 286 => 242 | 129 => 128 | 317 => 263 | 318 => 264 | 319 => 265 | 320 => 266 | 337 => 278 | 338 => 279 | n => n, fun | 2 => 2 | 3 => 3 | 9 => 9 | 4 => 4 | 171 => 261 | 0 => 0 | 53 => 168 | 37 => 141 | 5 => 5 | 173 => 263 | 212 => 283 | 51 => 166 | 20 => 20 | 213 => 284 | 46 => 105 | 232 => 298 | 233 => 299 | n => n, fun | 17 => 3 | 18 => 7 | 19 => 8 | n => n⟩
theorem Tryz.laysM173 : Go.Proofs.LaysM.n173 Tryz.prog Tryz.laysM173_ren := {
  mixed := by kernel_rfl
  f129 := Tryz.func128.trans (congrArg some (by kernel_rfl))
  f173 := Tryz.func200.trans (congrArg some (by kernel_rfl))
  f246 := Tryz.func218.trans (congrArg some (by kernel_rfl))
  f283 := Tryz.func239.trans (congrArg some (by kernel_rfl))
  f284 := Tryz.func240.trans (congrArg some (by kernel_rfl))
  f285 := Tryz.func241.trans (congrArg some (by kernel_rfl))
  f286 := Tryz.func242.trans (congrArg some (by kernel_rfl))
  f317 := Tryz.func263.trans (congrArg some (by kernel_rfl))
  f318 := Tryz.func264.trans (congrArg some (by kernel_rfl))
  f319 := Tryz.func265.trans (congrArg some (by kernel_rfl))
  f320 := Tryz.func266.trans (congrArg some (by kernel_rfl))
  f337 := Tryz.func278.trans (congrArg some (by kernel_rfl))
  f338 := Tryz.func279.trans (congrArg some (by kernel_rfl))
  t0 := Tryz.underlying0
  a0 := Tryz.isAgg0
  z0 := Tryz.sizeOf0
  v0 := Tryz.zeroValue0
  t2 := Tryz.underlying2
  a2 := Tryz.isAgg2
  z2 := Tryz.sizeOf2
  v2 := Tryz.zeroValue2
  t3 := Tryz.underlying3
  a3 := Tryz.isAgg3
  z3 := Tryz.sizeOf3
  v3 := Tryz.zeroValue3
  t4 := Tryz.underlying4
  a4 := Tryz.isAgg4
  z4 := Tryz.sizeOf4
  v4 := Tryz.zeroValue4
  t5 := Tryz.underlying5
  a5 := Tryz.isAgg5
  z5 := Tryz.sizeOf5
  v5 := Tryz.zeroValue5
  t9 := Tryz.underlying9
  a9 := Tryz.isAgg9
  z9 := Tryz.sizeOf9
  v9 := Tryz.zeroValue9
  t20 := Tryz.underlying20
  a20 := Tryz.isAgg20
  z20 := Tryz.sizeOf20
  v20 := Tryz.zeroValue20
  t37 := Tryz.underlying141
  a37 := Tryz.isAgg141
  z37 := Tryz.sizeOf141
  v37 := Tryz.zeroValue141
  t46 := Tryz.underlying105
  a46 := Tryz.isAgg105
  z46 := Tryz.sizeOf105
  v46 := Tryz.zeroValue105
  t51 := Tryz.underlying166
  a51 := Tryz.isAgg166
  z51 := Tryz.sizeOf166
  v51 := Tryz.zeroValue166
  t53 := Tryz.underlying168
  a53 := Tryz.isAgg168
  z53 := Tryz.sizeOf168
  v53 := Tryz.zeroValue168
  t171 := Tryz.underlying261
  a171 := Tryz.isAgg261
  z171 := Tryz.sizeOf261
  v171 := Tryz.zeroValue261
  t173 := Tryz.underlying263
  a173 := Tryz.isAgg263
  z173 := Tryz.sizeOf263
  v173 := Tryz.zeroValue263
  t212 := Tryz.underlying283
  a212 := Tryz.isAgg283
  z212 := Tryz.sizeOf283
  v212 := Tryz.zeroValue283
  t213 := Tryz.underlying284
  a213 := Tryz.isAgg284
  z213 := Tryz.sizeOf284
  t232 := Tryz.underlying298
  a232 := Tryz.isAgg298
  z232 := Tryz.sizeOf298
  v232 := Tryz.zeroValue298
  t233 := Tryz.underlying299
  a233 := Tryz.isAgg299
  z233 := Tryz.sizeOf299
  v233 := Tryz.zeroValue299
  g17 := by kernel_rfl
  g18 := by kernel_rfl
  g19 := by kernel_rfl
  i0 := by kernel_rfl
  i2 := by kernel_rfl
  i3 := by kernel_rfl
  i4 := by kernel_rfl
  i5 := by kernel_rfl
  i9 := by kernel_rfl
  i20 := by kernel_rfl
  i37 := by kernel_rfl
  i46 := by kernel_rfl
  i51 := by kernel_rfl
  i53 := by kernel_rfl
  i171 := by kernel_rfl
  i173 := by kernel_rfl
  i212 := by kernel_rfl
  i232 := by kernel_rfl
  i233 := by kernel_rfl
  m17 := by kernel_rfl
  m18 := by kernel_rfl
  m19 := by kernel_rfl }
open Go.RowKit Go.Sort Go.Lib in
/-- strconv.FormatInt: "FormatInt returns the string representation of i in the given base": AT BASE 10: i's decimal numeral, for every int64. (LAID: no walk: one application.) -/
theorem Tryz.strconv_FormatInt_10 (n : Int) (h0 : -9223372036854775808 ≤ n) (h1 : n ≤ 9223372036854775807) (w : World) (htab : Lib.TabIs Tryz.prog w "internal/strconv.uint64pow10" .u64 Lib.pow10Tab) :
    Calls Tryz.prog 200 #[.int .i64 n, .int .i64 10] w fun e w' => e = .returned (.string ⟨(Lib.itoa n).toArray⟩) ∧ ∃ k os, w' = grow (w.drewN k) os := Any.strconv_FormatInt_10 Tryz.laysM173 n h0 h1 w htab
def Tryz.laysC174_ren : Go.Shelf.Ren := ⟨fun | 174 => 199 | 247 => 216 | 245 => 217 | 287 => 234 | 279 => 235 | 280 => 236 | 281 => 237 | 282 => 238 | 321 => 258 | 322 => 259 | 316 => 260 | 171 => 262 | 205 => 261 | 243 => 277 | 246 => 218 | 283 => 239 | 284 => 240 | 285 => 241 | 286 => 242 | 129 => 128 | 317 => 263 | 318 => 264 | 319 => 265 | 320 => 266 | 337 => 278 | 338 => 279 | n => n, fun | 9 => 9 | 3 => 3 | 2 => 2 | 75 => 146 | 85 => 229 | 4 => 4 | 167 => 254 | 5 => 5 | 53 => 168 | 175 => 255 | 46 => 105 | 168 => 257 | 37 => 141 | 0 => 0 | 210 => 280 | 21 => 21 | 127 => 197 | 145 => 291 | 143 => 289 | 171 => 261 | 173 => 263 | 212 => 283 | 51 => 166 | 20 => 20 | 213 => 284 | 232 => 298 | 233 => 299 | 80 => 149 | n => n, fun | 15 => 1 | 16 => 2 | 17 => 3 | 18 => 7 | 19 => 8 | n => n⟩
theorem Tryz.laysC174 : Go.Proofs.LaysC.n174 Tryz.prog Tryz.laysC174_ren := {
  mixed := by kernel_rfl
  f129 := Tryz.func128.trans (congrArg some (by kernel_rfl))
  f171 := Tryz.func262.trans (congrArg some (by kernel_rfl))
  f174 := Tryz.func199.trans (congrArg some (by kernel_rfl))
  f205 := Tryz.func261.trans (congrArg some (by kernel_rfl))
  f243 := Tryz.func277.trans (congrArg some (by kernel_rfl))
  f245 := Tryz.func217.trans (congrArg some (by kernel_rfl))
  f246 := Tryz.func218.trans (congrArg some (by kernel_rfl))
  f247 := Tryz.func216.trans (congrArg some (by kernel_rfl))
  f279 := Tryz.func235.trans (congrArg some (by kernel_rfl))
  f280 := Tryz.func236.trans (congrArg some (by kernel_rfl))
  f281 := Tryz.func237.trans (congrArg some (by kernel_rfl))
  f282 := Tryz.func238.trans (congrArg some (by kernel_rfl))
  f283 := Tryz.func239.trans (congrArg some (by kernel_rfl))
  f284 := Tryz.func240.trans (congrArg some (by kernel_rfl))
  f285 := Tryz.func241.trans (congrArg some (by kernel_rfl))
  f286 := Tryz.func242.trans (congrArg some (by kernel_rfl))
  f287 := Tryz.func234.trans (congrArg some (by kernel_rfl))
  f316 := Tryz.func260.trans (congrArg some (by kernel_rfl))
  f317 := Tryz.func263.trans (congrArg some (by kernel_rfl))
  f318 := Tryz.func264.trans (congrArg some (by kernel_rfl))
  f319 := Tryz.func265.trans (congrArg some (by kernel_rfl))
  f320 := Tryz.func266.trans (congrArg some (by kernel_rfl))
  f321 := Tryz.func258.trans (congrArg some (by kernel_rfl))
  f322 := Tryz.func259.trans (congrArg some (by kernel_rfl))
  f337 := Tryz.func278.trans (congrArg some (by kernel_rfl))
  f338 := Tryz.func279.trans (congrArg some (by kernel_rfl))
  t0 := Tryz.underlying0
  a0 := Tryz.isAgg0
  z0 := Tryz.sizeOf0
  v0 := Tryz.zeroValue0
  t2 := Tryz.underlying2
  a2 := Tryz.isAgg2
  z2 := Tryz.sizeOf2
  v2 := Tryz.zeroValue2
  t3 := Tryz.underlying3
  a3 := Tryz.isAgg3
  z3 := Tryz.sizeOf3
  v3 := Tryz.zeroValue3
  t4 := Tryz.underlying4
  a4 := Tryz.isAgg4
  z4 := Tryz.sizeOf4
  v4 := Tryz.zeroValue4
  t5 := Tryz.underlying5
  a5 := Tryz.isAgg5
  z5 := Tryz.sizeOf5
  v5 := Tryz.zeroValue5
  t9 := Tryz.underlying9
  a9 := Tryz.isAgg9
  z9 := Tryz.sizeOf9
  v9 := Tryz.zeroValue9
  t20 := Tryz.underlying20
  a20 := Tryz.isAgg20
  z20 := Tryz.sizeOf20
  v20 := Tryz.zeroValue20
  t21 := Tryz.underlying21
  a21 := Tryz.isAgg21
  z21 := Tryz.sizeOf21
  v21 := Tryz.zeroValue21
  t37 := Tryz.underlying141
  a37 := Tryz.isAgg141
  z37 := Tryz.sizeOf141
  v37 := Tryz.zeroValue141
  t46 := Tryz.underlying105
  a46 := Tryz.isAgg105
  z46 := Tryz.sizeOf105
  v46 := Tryz.zeroValue105
  t51 := Tryz.underlying166
  a51 := Tryz.isAgg166
  z51 := Tryz.sizeOf166
  v51 := Tryz.zeroValue166
  t53 := Tryz.underlying168
  a53 := Tryz.isAgg168
  z53 := Tryz.sizeOf168
  v53 := Tryz.zeroValue168
  t75 := Tryz.underlying146
  a75 := Tryz.isAgg146
  z75 := Tryz.sizeOf146
  v75 := Tryz.zeroValue146
  t85 := Tryz.underlying229
  a85 := Tryz.isAgg229
  z85 := Tryz.sizeOf229
  v85 := Tryz.zeroValue229
  t127 := Tryz.underlying197
  a127 := Tryz.isAgg197
  z127 := Tryz.sizeOf197
  v127 := Tryz.zeroValue197
  t143 := Tryz.underlying289
  a143 := Tryz.isAgg289
  z143 := Tryz.sizeOf289
  v143 := Tryz.zeroValue289
  t145 := Tryz.underlying291
  a145 := Tryz.isAgg291
  z145 := Tryz.sizeOf291
  v145 := Tryz.zeroValue291
  t167 := Tryz.underlying254
  a167 := Tryz.isAgg254
  z167 := Tryz.sizeOf254
  v167 := Tryz.zeroValue254
  t168 := Tryz.underlying257
  a168 := Tryz.isAgg257
  z168 := Tryz.sizeOf257
  v168 := Tryz.zeroValue257
  t171 := Tryz.underlying261
  a171 := Tryz.isAgg261
  z171 := Tryz.sizeOf261
  v171 := Tryz.zeroValue261
  t173 := Tryz.underlying263
  a173 := Tryz.isAgg263
  z173 := Tryz.sizeOf263
  v173 := Tryz.zeroValue263
  t175 := Tryz.underlying255
  a175 := Tryz.isAgg255
  z175 := Tryz.sizeOf255
  v175 := Tryz.zeroValue255
  t210 := Tryz.underlying280
  a210 := Tryz.isAgg280
  z210 := Tryz.sizeOf280
  v210 := Tryz.zeroValue280
  t212 := Tryz.underlying283
  a212 := Tryz.isAgg283
  z212 := Tryz.sizeOf283
  v212 := Tryz.zeroValue283
  t213 := Tryz.underlying284
  a213 := Tryz.isAgg284
  z213 := Tryz.sizeOf284
  t232 := Tryz.underlying298
  a232 := Tryz.isAgg298
  z232 := Tryz.sizeOf298
  v232 := Tryz.zeroValue298
  t233 := Tryz.underlying299
  a233 := Tryz.isAgg299
  z233 := Tryz.sizeOf299
  v233 := Tryz.zeroValue299
  g15 := by kernel_rfl
  g16 := by kernel_rfl
  g17 := by kernel_rfl
  g18 := by kernel_rfl
  g19 := by kernel_rfl
  t80 := Tryz.underlying149
  a80 := Tryz.isAgg149
  z80 := Tryz.sizeOf149
  v80 := Tryz.zeroValue149
  i0 := by kernel_rfl
  i2 := by kernel_rfl
  i3 := by kernel_rfl
  i4 := by kernel_rfl
  i5 := by kernel_rfl
  i9 := by kernel_rfl
  i20 := by kernel_rfl
  i21 := by kernel_rfl
  i37 := by kernel_rfl
  i46 := by kernel_rfl
  i51 := by kernel_rfl
  i53 := by kernel_rfl
  i75 := by kernel_rfl
  i80 := by kernel_rfl
  i85 := by kernel_rfl
  i127 := by kernel_rfl
  i143 := by kernel_rfl
  i145 := by kernel_rfl
  i167 := by kernel_rfl
  i168 := by kernel_rfl
  i171 := by kernel_rfl
  i173 := by kernel_rfl
  i175 := by kernel_rfl
  i210 := by kernel_rfl
  i212 := by kernel_rfl
  i232 := by kernel_rfl
  i233 := by kernel_rfl
  m15 := by kernel_rfl
  m16 := by kernel_rfl
  m17 := by kernel_rfl
  m18 := by kernel_rfl
  m19 := by kernel_rfl
  c0 := by kernel_rfl
  c2 := by kernel_rfl
  c3 := by kernel_rfl
  c4 := by kernel_rfl
  c5 := by kernel_rfl
  c9 := by kernel_rfl
  c20 := by kernel_rfl
  c21 := by kernel_rfl
  c37 := by kernel_rfl
  c46 := by kernel_rfl
  c51 := by kernel_rfl
  c53 := by kernel_rfl
  c75 := by kernel_rfl
  c80 := by kernel_rfl
  c85 := by kernel_rfl
  c127 := by kernel_rfl
  c143 := by kernel_rfl
  c145 := by kernel_rfl
  c167 := by kernel_rfl
  c168 := by kernel_rfl
  c171 := by kernel_rfl
  c173 := by kernel_rfl
  c175 := by kernel_rfl
  c210 := by kernel_rfl
  c212 := by kernel_rfl
  c213 := by kernel_rfl
  c232 := by kernel_rfl
  c233 := by kernel_rfl }
open Go.RowKit in
/-- strconv.ParseInt(s, 10, 64), AT EVERY STRING THAT SPELLS AN int64 ('Lib.parseIntB 64 s.data.toList = .ok v'): v, AND NO ERROR. (LAID: no walk: one application.) -/
theorem Tryz.strconv_ParseInt_10_at64_ok (s : ByteArray) (hmax : s.size ≤ 9223372036854775806) (v : Int) (h : Lib.parseIntB 64 s.data.toList = .ok v) (w : World) :
    Calls Tryz.prog 199 #[.string s, .int .i64 10, .int .i64 64] w fun e w' => e = .returned (.tuple #[.int .i64 v, .nilIface]) ∧ (w' = w ∨ ∃ t, w' = Lib.bytesWorld w 5 t) := Any.strconv_ParseInt_10_at64_ok Tryz.laysC174 s hmax v h w
open Go.RowKit in
theorem Tryz.strconv_ParseInt_10_at64_range_var (s : ByteArray) (hlim : s.size ≤ 281474976710656) (h : Lib.parseIntB 64 s.data.toList = .range) (tp : TypeId) (p : Value) (w : World) (hvar : w.var? Tryz.prog "strconv.ErrRange" = some #[.iface tp p]) :
    Calls Tryz.prog 199 #[.string s, .int .i64 10, .int .i64 64] w fun e w' => ∃ N, e = .returned (.tuple #[.int .i64 (Lib.intSat 64 s.data.toList), .iface 257 (.pointer (some ⟨N, 0, none⟩))]) ∧ w.heap.size ≤ N ∧ w'.heap[N]? = some (.cells #[.string ⟨#[80, 97, 114, 115, 101, 73, 110, 116]⟩, .string s, .iface tp p] 280 (0, 0)) ∧ Below w.heap.size w w' := Any.strconv_ParseInt_10_at64_range_var Tryz.laysC174 s hlim h tp p w hvar
def Tryz.lays145_ren : Go.Shelf.Ren := ⟨fun | 145 => 135 | 220 => 178 | 219 => 205 | 217 => 206 | 225 => 226 | 224 => 227 | 267 => 228 | 266 => 229 | 314 => 254 | n => n, fun | 9 => 9 | 4 => 4 | 59 => 173 | 3 => 3 | 5 => 5 | 46 => 105 | 146 => 275 | 51 => 166 | n => n, fun | 1 => 0 | n => n⟩
theorem Tryz.lays145 : Go.Proofs.Lays.n145 Tryz.prog Tryz.lays145_ren := {
  mixed := by kernel_rfl
  f145 := Tryz.func135.trans (congrArg some (by kernel_rfl))
  f217 := Tryz.func206.trans (congrArg some (by kernel_rfl))
  f219 := Tryz.func205.trans (congrArg some (by kernel_rfl))
  f220 := Tryz.func178.trans (congrArg some (by kernel_rfl))
  f224 := Tryz.func227.trans (congrArg some (by kernel_rfl))
  f225 := Tryz.func226.trans (congrArg some (by kernel_rfl))
  f266 := Tryz.func229.trans (congrArg some (by kernel_rfl))
  f267 := Tryz.func228.trans (congrArg some (by kernel_rfl))
  f314 := Tryz.func254.trans (congrArg some (by kernel_rfl))
  t3 := Tryz.underlying3
  a3 := Tryz.isAgg3
  z3 := Tryz.sizeOf3
  v3 := Tryz.zeroValue3
  t4 := Tryz.underlying4
  a4 := Tryz.isAgg4
  z4 := Tryz.sizeOf4
  v4 := Tryz.zeroValue4
  t5 := Tryz.underlying5
  a5 := Tryz.isAgg5
  z5 := Tryz.sizeOf5
  v5 := Tryz.zeroValue5
  t9 := Tryz.underlying9
  a9 := Tryz.isAgg9
  z9 := Tryz.sizeOf9
  v9 := Tryz.zeroValue9
  t46 := Tryz.underlying105
  a46 := Tryz.isAgg105
  z46 := Tryz.sizeOf105
  v46 := Tryz.zeroValue105
  t51 := Tryz.underlying166
  a51 := Tryz.isAgg166
  z51 := Tryz.sizeOf166
  v51 := Tryz.zeroValue166
  t59 := Tryz.underlying173
  a59 := Tryz.isAgg173
  z59 := Tryz.sizeOf173
  v59 := Tryz.zeroValue173
  t146 := Tryz.underlying275
  a146 := Tryz.isAgg275
  z146 := Tryz.sizeOf275
  v146 := Tryz.zeroValue275
  g1 := by kernel_rfl }
open Go.RowKit Go.Lib in
/-- strings.Cut: "Cut slices s around the first instance of sep, returning the text before and after sep. The found result reports whether sep appears in s. If sep does not appear in s, cut returns s, "", false.": IT RETURNS 'Lib.cut s sep'; the world is as it was but for the count of draws. (LAID: no walk: one application.) -/
theorem Tryz.strings_Cut (s sep : ByteArray) (m : Int) (w : World) (hs : s.size < 4294967281) (hm : w.cell? ⟨0, 0, none⟩ = some (.int .i64 m)) :
    Calls Tryz.prog 135 #[.string s, .string sep] w fun e w' => e = .returned (.tuple #[.string ⟨(Lib.cut s.data.toList sep.data.toList).1.toArray⟩, .string ⟨(Lib.cut s.data.toList sep.data.toList).2.1.toArray⟩, .bool (Lib.cut s.data.toList sep.data.toList).2.2]) ∧ ∃ n, w' = w.drewN n := Any.strings_Cut Tryz.lays145 s sep m w hs hm
def Tryz.lays101_ren : Go.Shelf.Ren := ⟨fun | 101 => 213 | 208 => 233 | 206 => 257 | n => n, fun | 9 => 9 | 4 => 4 | 3 => 3 | n => n, fun | n => n⟩
theorem Tryz.lays101 : Go.Proofs.Lays.n101 Tryz.prog Tryz.lays101_ren := {
  mixed := by kernel_rfl
  f101 := Tryz.func213.trans (congrArg some (by kernel_rfl))
  f206 := Tryz.func257.trans (congrArg some (by kernel_rfl))
  f208 := Tryz.func233.trans (congrArg some (by kernel_rfl))
  t3 := Tryz.underlying3
  a3 := Tryz.isAgg3
  z3 := Tryz.sizeOf3
  v3 := Tryz.zeroValue3
  t4 := Tryz.underlying4
  a4 := Tryz.isAgg4
  z4 := Tryz.sizeOf4
  v4 := Tryz.zeroValue4
  t9 := Tryz.underlying9
  a9 := Tryz.isAgg9
  z9 := Tryz.sizeOf9
  v9 := Tryz.zeroValue9 }
open Go.RowKit Go.Lib in
/-- strings.TrimPrefix: "TrimPrefix returns s without the provided leading prefix string. If s doesn't start with prefix, s is returned unchanged.": IT RETURNS 'Lib.trimPrefix s prefix'; the world is as it was. (LAID: no walk: one application.) -/
theorem Tryz.strings_TrimPrefix (s p : ByteArray) (w : World) :
    Calls Tryz.prog 213 #[.string s, .string p] w fun e w' => e = .returned (.string ⟨(Lib.trimPrefix s.data.toList p.data.toList).toArray⟩) ∧ w' = w := Any.strings_TrimPrefix Tryz.lays101 s p w
def Tryz.lays146_ren : Go.Shelf.Ren := ⟨fun | 146 => 232 | 221 => 256 | 268 => 276 | 138 => 251 | 143 => 252 | 195 => 273 | 197 => 253 | 218 => 274 | 219 => 205 | 260 => 275 | 217 => 206 | 225 => 226 | 224 => 227 | 267 => 228 | 266 => 229 | 314 => 254 | n => n, fun | 9 => 9 | 31 => 43 | 3 => 3 | 4 => 4 | 0 => 0 | 105 => 271 | 21 => 21 | 5 => 5 | 46 => 105 | 119 => 294 | 139 => 297 | 138 => 296 | 146 => 275 | 51 => 166 | n => n, fun | 1 => 0 | 3 => 5 | 4 => 6 | n => n⟩
theorem Tryz.lays146 : Go.Proofs.Lays.n146 Tryz.prog Tryz.lays146_ren := {
  mixed := by kernel_rfl
  f138 := Tryz.func251.trans (congrArg some (by kernel_rfl))
  f143 := Tryz.func252.trans (congrArg some (by kernel_rfl))
  f146 := Tryz.func232.trans (congrArg some (by kernel_rfl))
  f195 := Tryz.func273.trans (congrArg some (by kernel_rfl))
  f197 := Tryz.func253.trans (congrArg some (by kernel_rfl))
  f217 := Tryz.func206.trans (congrArg some (by kernel_rfl))
  f218 := Tryz.func274.trans (congrArg some (by kernel_rfl))
  f219 := Tryz.func205.trans (congrArg some (by kernel_rfl))
  f221 := Tryz.func256.trans (congrArg some (by kernel_rfl))
  f224 := Tryz.func227.trans (congrArg some (by kernel_rfl))
  f225 := Tryz.func226.trans (congrArg some (by kernel_rfl))
  f260 := Tryz.func275.trans (congrArg some (by kernel_rfl))
  f266 := Tryz.func229.trans (congrArg some (by kernel_rfl))
  f267 := Tryz.func228.trans (congrArg some (by kernel_rfl))
  f268 := Tryz.func276.trans (congrArg some (by kernel_rfl))
  f314 := Tryz.func254.trans (congrArg some (by kernel_rfl))
  t0 := Tryz.underlying0
  a0 := Tryz.isAgg0
  z0 := Tryz.sizeOf0
  v0 := Tryz.zeroValue0
  t3 := Tryz.underlying3
  a3 := Tryz.isAgg3
  z3 := Tryz.sizeOf3
  v3 := Tryz.zeroValue3
  t4 := Tryz.underlying4
  a4 := Tryz.isAgg4
  z4 := Tryz.sizeOf4
  v4 := Tryz.zeroValue4
  t5 := Tryz.underlying5
  a5 := Tryz.isAgg5
  z5 := Tryz.sizeOf5
  v5 := Tryz.zeroValue5
  t9 := Tryz.underlying9
  a9 := Tryz.isAgg9
  z9 := Tryz.sizeOf9
  v9 := Tryz.zeroValue9
  t21 := Tryz.underlying21
  a21 := Tryz.isAgg21
  z21 := Tryz.sizeOf21
  v21 := Tryz.zeroValue21
  t31 := Tryz.underlying43
  a31 := Tryz.isAgg43
  z31 := Tryz.sizeOf43
  v31 := Tryz.zeroValue43
  t46 := Tryz.underlying105
  a46 := Tryz.isAgg105
  z46 := Tryz.sizeOf105
  v46 := Tryz.zeroValue105
  t51 := Tryz.underlying166
  a51 := Tryz.isAgg166
  z51 := Tryz.sizeOf166
  v51 := Tryz.zeroValue166
  t105 := Tryz.underlying271
  a105 := Tryz.isAgg271
  z105 := Tryz.sizeOf271
  v105 := Tryz.zeroValue271
  t119 := Tryz.underlying294
  a119 := Tryz.isAgg294
  z119 := Tryz.sizeOf294
  t138 := Tryz.underlying296
  a138 := Tryz.isAgg296
  z138 := Tryz.sizeOf296
  v138 := Tryz.zeroValue296
  t139 := Tryz.underlying297
  a139 := Tryz.isAgg297
  z139 := Tryz.sizeOf297
  v139 := Tryz.zeroValue297
  t146 := Tryz.underlying275
  a146 := Tryz.isAgg275
  z146 := Tryz.sizeOf275
  v146 := Tryz.zeroValue275
  g1 := by kernel_rfl
  g3 := by kernel_rfl
  g4 := by kernel_rfl }
open Go.RowKit Go.Lib in
/-- strings.Split. (LAID: no walk: one application.) -/
theorem Tryz.strings_Split (s sep : ByteArray) (m : Int) (w : World) (hs : s.size < 4294967281) (hm : w.cell? ⟨0, 0, none⟩ = some (.int .i64 m)) (h1 : 1 ≤ sep.size) :
    Calls Tryz.prog 232 #[.string s, .string sep] w fun e w' =>
      e = .returned (.slice (some ⟨w.heap.size, 0, none⟩) (Lib.countB s sep + 1) (Lib.countB s sep + 1)) ∧ w' = w.alloc (.cells ((Lib.splitB sep 0 (Lib.countB s sep) s).map Value.string).toArray 9) := Any.strings_Split Tryz.lays146 (by kernel_rfl) s sep m w hs hm h1
def Tryz.lays154_ren : Go.Shelf.Ren := ⟨fun | 154 => 225 | 138 => 251 | 165 => 108 | 143 => 252 | 166 => 109 | 197 => 253 | 169 => 110 | 195 => 273 | 218 => 274 | 240 => 163 | 241 => 164 | 219 => 205 | 260 => 275 | 276 => 192 | 277 => 193 | 217 => 206 | 225 => 226 | 224 => 227 | 267 => 228 | 266 => 229 | 314 => 254 | n => n, fun | 9 => 9 | 3 => 3 | 4 => 4 | 72 => 143 | 0 => 0 | 76 => 147 | 105 => 271 | 21 => 21 | 5 => 5 | 70 => 140 | 20 => 20 | 37 => 141 | 75 => 146 | 127 => 197 | 164 => 221 | 46 => 105 | 119 => 294 | 139 => 297 | 138 => 296 | 146 => 275 | 51 => 166 | 80 => 149 | n => n, fun | 1 => 0 | 3 => 5 | 4 => 6 | n => n⟩
theorem Tryz.lays154 : Go.Proofs.Lays.n154 Tryz.prog Tryz.lays154_ren := {
  mixed := by kernel_rfl
  f138 := Tryz.func251.trans (congrArg some (by kernel_rfl))
  f143 := Tryz.func252.trans (congrArg some (by kernel_rfl))
  f154 := Tryz.func225.trans (congrArg some (by kernel_rfl))
  f165 := Tryz.func108.trans (congrArg some (by kernel_rfl))
  f166 := Tryz.func109.trans (congrArg some (by kernel_rfl))
  f169 := Tryz.func110.trans (congrArg some (by kernel_rfl))
  f195 := Tryz.func273.trans (congrArg some (by kernel_rfl))
  f197 := Tryz.func253.trans (congrArg some (by kernel_rfl))
  f217 := Tryz.func206.trans (congrArg some (by kernel_rfl))
  f218 := Tryz.func274.trans (congrArg some (by kernel_rfl))
  f219 := Tryz.func205.trans (congrArg some (by kernel_rfl))
  f224 := Tryz.func227.trans (congrArg some (by kernel_rfl))
  f225 := Tryz.func226.trans (congrArg some (by kernel_rfl))
  f240 := Tryz.func163.trans (congrArg some (by kernel_rfl))
  f241 := Tryz.func164.trans (congrArg some (by kernel_rfl))
  f260 := Tryz.func275.trans (congrArg some (by kernel_rfl))
  f266 := Tryz.func229.trans (congrArg some (by kernel_rfl))
  f267 := Tryz.func228.trans (congrArg some (by kernel_rfl))
  f276 := Tryz.func192.trans (congrArg some (by kernel_rfl))
  f277 := Tryz.func193.trans (congrArg some (by kernel_rfl))
  f314 := Tryz.func254.trans (congrArg some (by kernel_rfl))
  t0 := Tryz.underlying0
  a0 := Tryz.isAgg0
  z0 := Tryz.sizeOf0
  v0 := Tryz.zeroValue0
  t3 := Tryz.underlying3
  a3 := Tryz.isAgg3
  z3 := Tryz.sizeOf3
  v3 := Tryz.zeroValue3
  t4 := Tryz.underlying4
  a4 := Tryz.isAgg4
  z4 := Tryz.sizeOf4
  v4 := Tryz.zeroValue4
  t5 := Tryz.underlying5
  a5 := Tryz.isAgg5
  z5 := Tryz.sizeOf5
  v5 := Tryz.zeroValue5
  t9 := Tryz.underlying9
  a9 := Tryz.isAgg9
  z9 := Tryz.sizeOf9
  v9 := Tryz.zeroValue9
  t20 := Tryz.underlying20
  a20 := Tryz.isAgg20
  z20 := Tryz.sizeOf20
  v20 := Tryz.zeroValue20
  t21 := Tryz.underlying21
  a21 := Tryz.isAgg21
  z21 := Tryz.sizeOf21
  v21 := Tryz.zeroValue21
  t37 := Tryz.underlying141
  a37 := Tryz.isAgg141
  z37 := Tryz.sizeOf141
  v37 := Tryz.zeroValue141
  t46 := Tryz.underlying105
  a46 := Tryz.isAgg105
  z46 := Tryz.sizeOf105
  v46 := Tryz.zeroValue105
  t51 := Tryz.underlying166
  a51 := Tryz.isAgg166
  z51 := Tryz.sizeOf166
  v51 := Tryz.zeroValue166
  t70 := Tryz.underlying140
  a70 := Tryz.isAgg140
  z70 := Tryz.sizeOf140
  v70 := Tryz.zeroValue140
  t72 := Tryz.underlying143
  a72 := Tryz.isAgg143
  z72 := Tryz.sizeOf143
  v72 := Tryz.zeroValue143
  t75 := Tryz.underlying146
  a75 := Tryz.isAgg146
  z75 := Tryz.sizeOf146
  v75 := Tryz.zeroValue146
  t76 := Tryz.underlying147
  a76 := Tryz.isAgg147
  z76 := Tryz.sizeOf147
  v76 := Tryz.zeroValue147
  t105 := Tryz.underlying271
  a105 := Tryz.isAgg271
  z105 := Tryz.sizeOf271
  v105 := Tryz.zeroValue271
  t119 := Tryz.underlying294
  a119 := Tryz.isAgg294
  z119 := Tryz.sizeOf294
  t127 := Tryz.underlying197
  a127 := Tryz.isAgg197
  z127 := Tryz.sizeOf197
  v127 := Tryz.zeroValue197
  t138 := Tryz.underlying296
  a138 := Tryz.isAgg296
  z138 := Tryz.sizeOf296
  v138 := Tryz.zeroValue296
  t139 := Tryz.underlying297
  a139 := Tryz.isAgg297
  z139 := Tryz.sizeOf297
  v139 := Tryz.zeroValue297
  t146 := Tryz.underlying275
  a146 := Tryz.isAgg275
  z146 := Tryz.sizeOf275
  v146 := Tryz.zeroValue275
  t164 := Tryz.underlying221
  a164 := Tryz.isAgg221
  z164 := Tryz.sizeOf221
  v164 := Tryz.zeroValue221
  g1 := by kernel_rfl
  g3 := by kernel_rfl
  g4 := by kernel_rfl }
theorem Tryz.Builder_Extra_154 : Builder.Extra Tryz.prog Tryz.lays154_ren := {
  sizeBuilder := by kernel_rfl
  liesBuilder := by kernel_rfl
  t5 := Tryz.underlying5
  a5 := Tryz.isAgg5
  z5 := Tryz.sizeOf5
  v5 := Tryz.zeroValue5
  infoByte := by kernel_rfl
  cellsByte := by kernel_rfl
  sizeByte := by kernel_rfl
  neB5 := by decide }
open Go.RowKit Go.Lib in
/-- strings.Replace: "Replace returns a copy of the string s with the first n non-overlapping instances of old replaced by new. .. If n < 0, there is no limit on the number of replacements.": AT AN old THAT IS NOT EMPTY: IT RETURNS 'Lib.replace s old new n'. Below the heap's end the world is as it was. IT ASKS, as strings.Index's contract: 'len(s) < 4294967281', 'hm'; and that what comes out has room: 'len(s) + Count(s, old) * len(new) ≤ 2^47'. (LAID: no walk: one application.) -/
theorem Tryz.strings_Replace (s old new : ByteArray) (n : Int) (m : Int) (w : World) (hs : s.size < 4294967281) (hm : w.cell? ⟨0, 0, none⟩ = some (.int .i64 m)) (h1 : 1 ≤ old.size) (hlen : s.size + Lib.countB s old * new.size ≤ 140737488355328) :
    Calls Tryz.prog 225 #[.string s, .string old, .string new, .int .i64 n] w fun e w' =>
      e = .returned (.string ⟨(Lib.replace s.data.toList old.data.toList new.data.toList n).toArray⟩) ∧ Below w.heap.size w w' := Any.strings_Replace Tryz.lays154 Tryz.Builder_Extra_154 s old new n m w hs hm h1 hlen
def Tryz.lays152_ren : Go.Shelf.Ren := ⟨fun | 152 => 244 | 137 => 179 | 119 => 268 | 224 => 227 | 225 => 226 | 217 => 206 | 266 => 229 | n => n, fun | 9 => 9 | 21 => 21 | 3 => 3 | 4 => 4 | 5 => 5 | 0 => 0 | 46 => 105 | n => n, fun | n => n⟩
theorem Tryz.lays152 : Go.Proofs.Lays.n152 Tryz.prog Tryz.lays152_ren := {
  mixed := by kernel_rfl
  f119 := Tryz.func268.trans (congrArg some (by kernel_rfl))
  f137 := Tryz.func179.trans (congrArg some (by kernel_rfl))
  f152 := Tryz.func244.trans (congrArg some (by kernel_rfl))
  f217 := Tryz.func206.trans (congrArg some (by kernel_rfl))
  f224 := Tryz.func227.trans (congrArg some (by kernel_rfl))
  f225 := Tryz.func226.trans (congrArg some (by kernel_rfl))
  f266 := Tryz.func229.trans (congrArg some (by kernel_rfl))
  t0 := Tryz.underlying0
  a0 := Tryz.isAgg0
  z0 := Tryz.sizeOf0
  v0 := Tryz.zeroValue0
  t3 := Tryz.underlying3
  a3 := Tryz.isAgg3
  z3 := Tryz.sizeOf3
  v3 := Tryz.zeroValue3
  t4 := Tryz.underlying4
  a4 := Tryz.isAgg4
  z4 := Tryz.sizeOf4
  v4 := Tryz.zeroValue4
  t5 := Tryz.underlying5
  a5 := Tryz.isAgg5
  z5 := Tryz.sizeOf5
  v5 := Tryz.zeroValue5
  t9 := Tryz.underlying9
  a9 := Tryz.isAgg9
  z9 := Tryz.sizeOf9
  v9 := Tryz.zeroValue9
  t21 := Tryz.underlying21
  a21 := Tryz.isAgg21
  z21 := Tryz.sizeOf21
  v21 := Tryz.zeroValue21
  t46 := Tryz.underlying105
  a46 := Tryz.isAgg105
  z46 := Tryz.sizeOf105
  v46 := Tryz.zeroValue105 }
open Go.RowKit Go.Lib in
theorem Tryz.strings_IndexRune_ascii (s : ByteArray) (r : Int) (w : World) (h0 : 0 ≤ r) (h1 : r < 128) :
    Calls Tryz.prog 244 #[.string s, .int .i32 r] w fun e w' => e = .returned (.int .i64 (Lib.indexByte s.data.toList r.toNat.toUInt8)) ∧ w' = w := Any.strings_IndexRune_ascii Tryz.lays152 s r w h0 h1
def Tryz.lays226_ren : Go.Shelf.Ren := ⟨fun | 226 => 245 | n => n, fun | 3 => 3 | 4 => 4 | n => n, fun | n => n⟩
theorem Tryz.lays226 : Go.Proofs.Lays.n226 Tryz.prog Tryz.lays226_ren := {
  mixed := by kernel_rfl
  f226 := Tryz.func245.trans (congrArg some (by kernel_rfl))
  t3 := Tryz.underlying3
  a3 := Tryz.isAgg3
  z3 := Tryz.sizeOf3
  v3 := Tryz.zeroValue3
  t4 := Tryz.underlying4
  a4 := Tryz.isAgg4
  z4 := Tryz.sizeOf4
  v4 := Tryz.zeroValue4 }
open Go.RowKit Go.Lib in
theorem Tryz.strings_shouldUseASCIISet (n : Int) (w : World) :
    Calls Tryz.prog 245 #[.int .i64 n] w fun e w' => e = .returned (.bool (decide (8 < n))) ∧ w' = w := Any.strings_shouldUseASCIISet Tryz.lays226 n w
def Tryz.lays227_ren : Go.Shelf.Ren := ⟨fun | 227 => 246 | n => n, fun | 9 => 9 | 116 => 268 | 4 => 4 | 0 => 0 | 3 => 3 | 5 => 5 | n => n, fun | n => n⟩
theorem Tryz.lays227 : Go.Proofs.Lays.n227 Tryz.prog Tryz.lays227_ren := {
  mixed := by kernel_rfl
  f227 := Tryz.func246.trans (congrArg some (by kernel_rfl))
  t0 := Tryz.underlying0
  a0 := Tryz.isAgg0
  z0 := Tryz.sizeOf0
  v0 := Tryz.zeroValue0
  t3 := Tryz.underlying3
  a3 := Tryz.isAgg3
  z3 := Tryz.sizeOf3
  v3 := Tryz.zeroValue3
  t4 := Tryz.underlying4
  a4 := Tryz.isAgg4
  z4 := Tryz.sizeOf4
  v4 := Tryz.zeroValue4
  t5 := Tryz.underlying5
  a5 := Tryz.isAgg5
  z5 := Tryz.sizeOf5
  v5 := Tryz.zeroValue5
  t9 := Tryz.underlying9
  a9 := Tryz.isAgg9
  z9 := Tryz.sizeOf9
  v9 := Tryz.zeroValue9
  t116 := Tryz.underlying268
  a116 := Tryz.isAgg268
  z116 := Tryz.sizeOf268 }
open Go.RowKit Go.Lib in
theorem Tryz.strings_makeASCIISet (hv116 : ∀ w, (zeroValue 268).run Tryz.prog w = .ok (.agg (Array.replicate 256 (.bool false))) w) (chars : ByteArray) (w : World) (hs : chars.size < 4294967281) (hascii : ∀ (j : Nat) b, chars.data.toList[j]? = some b → b.toNat < 128) :
    Calls Tryz.prog 246 #[.string chars] w fun e w' => e = .returned (.tuple #[.agg (Lib.setCells chars.data.toList), .bool true]) ∧ w' = w.alloc (.cells (Lib.setCells chars.data.toList) 268) := Any.strings_makeASCIISet Tryz.lays227 hv116 (by kernel_rfl) chars w hs hascii
def Tryz.lays228_ren : Go.Shelf.Ren := ⟨fun | 228 => 247 | n => n, fun | 124 => 286 | 5 => 5 | 4 => 4 | 0 => 0 | 116 => 268 | n => n, fun | n => n⟩
theorem Tryz.lays228 : Go.Proofs.Lays.n228 Tryz.prog Tryz.lays228_ren := {
  mixed := by kernel_rfl
  f228 := Tryz.func247.trans (congrArg some (by kernel_rfl))
  t0 := Tryz.underlying0
  a0 := Tryz.isAgg0
  z0 := Tryz.sizeOf0
  v0 := Tryz.zeroValue0
  t4 := Tryz.underlying4
  a4 := Tryz.isAgg4
  z4 := Tryz.sizeOf4
  v4 := Tryz.zeroValue4
  t5 := Tryz.underlying5
  a5 := Tryz.isAgg5
  z5 := Tryz.sizeOf5
  v5 := Tryz.zeroValue5
  t116 := Tryz.underlying268
  a116 := Tryz.isAgg268
  z116 := Tryz.sizeOf268
  t124 := Tryz.underlying286
  a124 := Tryz.isAgg286
  z124 := Tryz.sizeOf286
  v124 := Tryz.zeroValue286 }
open Go.RowKit Go.Lib in
/-- '(as *asciiSet) contains(c)': 'as[c]': the set lies at block b, whole. (LAID: no walk: one application.) -/
theorem Tryz.asciiSet_contains (b : Nat) (x : UInt8) (v : Bool) (w : World) (hc : w.cell? ⟨b, x.toNat, none⟩ = some (.bool v)) :
    Calls Tryz.prog 247 #[.pointer (some ⟨b, 0, none⟩), .int .u8 x.toNat] w fun e w' => e = .returned (.bool v) ∧ w' = w := Any.asciiSet_contains Tryz.lays228 b x v w hc
def Tryz.lays193_ren : Go.Shelf.Ren := ⟨fun | 193 => 183 | n => n, fun | 31 => 43 | 9 => 9 | 4 => 4 | 3 => 3 | 0 => 0 | n => n, fun | n => n⟩
theorem Tryz.lays193 : Go.Proofs.Lays.n193 Tryz.prog Tryz.lays193_ren := {
  mixed := by kernel_rfl
  f193 := Tryz.func183.trans (congrArg some (by kernel_rfl))
  t0 := Tryz.underlying0
  a0 := Tryz.isAgg0
  z0 := Tryz.sizeOf0
  v0 := Tryz.zeroValue0
  t3 := Tryz.underlying3
  a3 := Tryz.isAgg3
  z3 := Tryz.sizeOf3
  v3 := Tryz.zeroValue3
  t4 := Tryz.underlying4
  a4 := Tryz.isAgg4
  z4 := Tryz.sizeOf4
  v4 := Tryz.zeroValue4
  t9 := Tryz.underlying9
  a9 := Tryz.isAgg9
  z9 := Tryz.sizeOf9
  v9 := Tryz.zeroValue9
  t31 := Tryz.underlying43
  a31 := Tryz.isAgg43
  z31 := Tryz.sizeOf43
  v31 := Tryz.zeroValue43 }
open Go.RowKit Go.Lib in
/-- slices.Equal at []string: "Equal reports whether two slices are equal: the same length and all elements equal. If the lengths are different, Equal returns false. Otherwise, the elements are compared in increasing index order, and the comparison stops at the first unequal pair. Empty and nil slices are considered equal.": IT RETURNS WHETHER THE TWO LISTS OF ELEMENTS ARE ONE; the world is as it was but for the count of draws (the test 's1[i] != s2[i]' has two reads, whose order the model draws, once a round). 'xs', 'ys': what the cells behind the two addresses hold (the spare capacity too, if you have it); 'xs.take n', 'ys.take m': the elements. THE TWO SLICES MAY OVERLAP. (LAID: no walk: one application.) -/
theorem Tryz.slices_Equal_string (b1 o1 n c b2 o2 m d : Nat) (xs ys : List ByteArray) (w : World) (hx : n ≤ xs.length) (hy : m ≤ ys.length) (hbig : n ≤ 9223372036854775807) (hbig2 : m ≤ 9223372036854775807) (hc1 : ∀ j, j < xs.length → w.cell? ⟨b1, o1 + j, none⟩ = some (.string (xs.getD j ByteArray.empty))) (hc2 : ∀ j, j < ys.length → w.cell? ⟨b2, o2 + j, none⟩ = some (.string (ys.getD j ByteArray.empty))) :
    Calls Tryz.prog 183 #[.slice (some ⟨b1, o1, none⟩) n c, .slice (some ⟨b2, o2, none⟩) m d] w fun e w' => e = .returned (.bool (decide (xs.take n = ys.take m))) ∧ ∃ q, w' = w.drewN q := Any.slices_Equal_string Tryz.lays193 b1 o1 n c b2 o2 m d xs ys w hx hy hbig hbig2 hc1 hc2
def Tryz.laysNm216_ren : Go.Shelf.Ren := ⟨fun | 16 => 59 | n => n, fun | 24 => 43 | 9 => 9 | 4 => 4 | n => n, fun | n => n⟩
theorem Tryz.laysNm216 : Go.Proofs.Lays2.n16 Tryz.prog Tryz.laysNm216_ren := {
  mixed := by kernel_rfl
  f16 := Tryz.func59.trans (congrArg some (by kernel_rfl))
  t4 := Tryz.underlying4
  a4 := Tryz.isAgg4
  z4 := Tryz.sizeOf4
  v4 := Tryz.zeroValue4
  t9 := Tryz.underlying9
  a9 := Tryz.isAgg9
  z9 := Tryz.sizeOf9
  v9 := Tryz.zeroValue9
  t24 := Tryz.underlying43
  a24 := Tryz.isAgg43
  z24 := Tryz.sizeOf43
  v24 := Tryz.zeroValue43
  i9 := by kernel_rfl }
open Go.RowKit Go.Lib in
/-- slices.Clone at []string: "Clone returns a copy of the slice. The elements are copied using assignment, so this is a shallow clone. The result may have additional unused capacity. The result preserves the nilness of s.": OF A SLICE THAT IS NOT nil IT RETURNS A SLICE THAT IS NOT nil, OF THE SAME ELEMENTS, IN MEMORY OF THE CALL's OWN: in the how-to's words (6f): 'w'.ownsRow B e 1 v' n cells': v' begins at the head of a row among the blocks from B on (B: the heap's size at the call), not frozen, whose first cells are the elements · 'Below B w w'': below B all is as it was. The capacity is whatever the run-time gives. 'zs': what the cells behind the slice's address hold; 'zs.take n': its elements. (LAID: no walk: one application.) -/
theorem Tryz.slices_Clone_string (b off n c : Nat) (zs : List ByteArray) (w : World) (hz : n ≤ zs.length) (hbig : n * 16 ≤ 140737488355328) (hc : ∀ j, j < zs.length → w.cell? ⟨b, off + j, none⟩ = some (.string (zs.getD j ByteArray.empty))) :
    Calls Tryz.prog 59 #[.slice (some ⟨b, off, none⟩) n c] w fun e w' => ∃ v', e = .returned v' ∧ w'.ownsRow w.heap.size 9 1 v' n ((zs.take n).map (Value.string)) ∧ v' ≠ .slice none 0 0 ∧ Below w.heap.size w w' := Any.slices_Clone_string Tryz.laysNm216 b off n c zs w hz hbig hc
end Go.Proofs
