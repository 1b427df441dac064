/- DERIVED: THE SHELF's CONTRACTS AT THIS DUMP, IN PLAIN WORDS (tools/lay-plain.mjs out of 'YtmjdgpiofhildaaGreatDoorShelf.lean', which tools/lay-shelf.mjs wrote): THE SAME DECLARATIONS UNDER THE SAME NAMES: 'import', 'namespace', 'open', 'def', 'theorem' AND NOTHING ELSE: no command of the shelf's: FOR A HAND-IN. Each laying: the table of numbers ('.._ren') and one theorem, a field a fact of the dump's own or the kernel's comparison; each contract: ONE APPLICATION. -/
import Derived.Shelf.Strings.Builder1
import Derived.Shelf.Strings.Builder2
import Derived.Shelf.Small.Bits
import Derived.Shelf.Small.Strs
import Derived.Shelf.Strings.BuilderF
import Derived.Shelf.Strings.BuilderK
import Derived.Shelf.Utf8.RuneCount
import Derived.Shelf.Strconv.Atoi
import Derived.Shelf.Strconv.Itoa0
import Derived.Shelf.Strconv.Itoa1
import Derived.Shelf.LaysM
import Derived.Shelf.Strconv.Itoa2
import Derived.Shelf.Strconv.Itoa3
import Derived.Shelf.Strconv.AtoiErrFast
import Derived.Shelf.Strconv.ParseIntEmpty
import Derived.Shelf.Strconv.AtoiFail
import Derived.Shelf.Strconv.Clone
import Derived.Shelf.Strconv.SyntaxError
import Derived.Shelf.LaysC
import Derived.Shelf.Strconv.ToError
import Derived.Shelf.Strconv.Lower
import Derived.Shelf.Strconv.ParseUint10
import Derived.Shelf.Strconv.ParseUint10Empty
import Derived.Shelf.Strconv.ParseUint10Any
import Derived.Shelf.Strconv.ParseInt10
import Derived.Shelf.Strconv.AtoiLong
import Derived.Shelf.Strconv.AtoiInnerAll
import Derived.Shelf.Strconv.RangeError
import Derived.Shelf.Strconv.ToErrorRange
import Derived.Shelf.Strconv.AtoiAll
import Derived.Shelf.Strconv.ErrVarAll
import Derived.Shelf.Strings.Search1
import Derived.Shelf.Strings.Search2
import Derived.Shelf.Strings.Search3
import Derived.Shelf.Strings.Cut
import Derived.Shelf.Strings.Count
import Derived.Shelf.Strings.Shaped
import Derived.Shelf.Sort.Plain
import Derived.Shelf.Strings.Prefix
import Derived.Shelf.Strings.Split
import Derived.Shelf.Strings.SplitShaped
import Derived.Shelf.Unicode.Decode
import Derived.Shelf.Strings.RuneCount
import Derived.Shelf.Strings.Explode
import Derived.Shelf.Bits.Mul64
import Derived.Shelf.Strings.Repeat
import Derived.Shelf.Unicode.DecodeSlow
import Derived.Shelf.Unicode.DecodeAny
import Derived.Shelf.Slices.CompactS
import Derived.Shelf.Slices.Cells
import Derived.Shelf.Slices.In.SortNone
import Derived.Test.YtmjdgpiofhildaaGreatDoorChecked
namespace Go.Proofs
open Go.Shelf
def Tryz.lays137_ren : Go.Shelf.Ren := ⟨fun | 137 => 94 | 217 => 122 | 266 => 149 | n => n, fun | 9 => 9 | 5 => 5 | 3 => 3 | n => n, fun | n => n⟩
theorem Tryz.lays137 : Go.Proofs.Lays.n137 Tryz.prog Tryz.lays137_ren := {
  mixed := by kernel_rfl
  f137 := Tryz.func94.trans (congrArg some (by kernel_rfl))
  f217 := Tryz.func122.trans (congrArg some (by kernel_rfl))
  f266 := Tryz.func149.trans (congrArg some (by kernel_rfl))
  t3 := Tryz.underlying3
  a3 := Tryz.isAgg3
  z3 := Tryz.sizeOf3
  v3 := Tryz.zeroValue3
  t5 := Tryz.underlying5
  a5 := Tryz.isAgg5
  z5 := Tryz.sizeOf5
  v5 := Tryz.zeroValue5
  t9 := Tryz.underlying9
  a9 := Tryz.isAgg9
  z9 := Tryz.sizeOf9
  v9 := Tryz.zeroValue9 }
open Go.RowKit in
/-- strings.IndexByte: "IndexByte returns the index of the first instance of c in s, or -1 if c is not present in s.": IT RETURNS 'Lib.indexByte s c'; the world is as it was. (LAID: no walk: one application.) -/
theorem Tryz.strings_IndexByte (s : ByteArray) (c : Int) (w : World) :
    Calls Tryz.prog 94 #[.string s, .int .u8 c] w fun e w' => e = .returned (.int .i64 (Lib.indexByte s.data.toList c.toNat.toUInt8)) ∧ w' = w := Any.strings_IndexByte Tryz.lays137 s c w
def Tryz.laysM171_ren : Go.Shelf.Ren := ⟨fun | 171 => 38 | 243 => 67 | 246 => 85 | 283 => 117 | 284 => 118 | 285 => 119 | 286 => 120 | 129 => 110 | 317 => 145 | 318 => 146 | 319 => 147 | 320 => 148 | 337 => 160 | 338 => 161 | n => n, fun | 3 => 3 | 9 => 9 | 2 => 2 | 4 => 4 | 171 => 159 | 0 => 0 | 53 => 105 | 37 => 71 | 5 => 5 | 173 => 161 | 212 => 183 | 51 => 151 | 20 => 20 | 213 => 184 | 46 => 112 | 232 => 208 | 233 => 209 | n => n, fun | 17 => 1 | 18 => 6 | 19 => 7 | n => n⟩
theorem Tryz.laysM171 : Go.Proofs.LaysM.n171 Tryz.prog Tryz.laysM171_ren := {
  mixed := by kernel_rfl
  f129 := Tryz.func110.trans (congrArg some (by kernel_rfl))
  f171 := Tryz.func38.trans (congrArg some (by kernel_rfl))
  f243 := Tryz.func67.trans (congrArg some (by kernel_rfl))
  f246 := Tryz.func85.trans (congrArg some (by kernel_rfl))
  f283 := Tryz.func117.trans (congrArg some (by kernel_rfl))
  f284 := Tryz.func118.trans (congrArg some (by kernel_rfl))
  f285 := Tryz.func119.trans (congrArg some (by kernel_rfl))
  f286 := Tryz.func120.trans (congrArg some (by kernel_rfl))
  f317 := Tryz.func145.trans (congrArg some (by kernel_rfl))
  f318 := Tryz.func146.trans (congrArg some (by kernel_rfl))
  f319 := Tryz.func147.trans (congrArg some (by kernel_rfl))
  f320 := Tryz.func148.trans (congrArg some (by kernel_rfl))
  f337 := Tryz.func160.trans (congrArg some (by kernel_rfl))
  f338 := Tryz.func161.trans (congrArg some (by kernel_rfl))
  t0 := Tryz.underlying0
  a0 := Tryz.isAgg0
  z0 := Tryz.sizeOf0
  v0 := Tryz.zeroValue0
  t2 := Tryz.underlying2
  a2 := Tryz.isAgg2
  z2 := Tryz.sizeOf2
  v2 := Tryz.zeroValue2
  t3 := Tryz.underlying3
  a3 := Tryz.isAgg3
  z3 := Tryz.sizeOf3
  v3 := Tryz.zeroValue3
  t4 := Tryz.underlying4
  a4 := Tryz.isAgg4
  z4 := Tryz.sizeOf4
  v4 := Tryz.zeroValue4
  t5 := Tryz.underlying5
  a5 := Tryz.isAgg5
  z5 := Tryz.sizeOf5
  v5 := Tryz.zeroValue5
  t9 := Tryz.underlying9
  a9 := Tryz.isAgg9
  z9 := Tryz.sizeOf9
  v9 := Tryz.zeroValue9
  t20 := Tryz.underlying20
  a20 := Tryz.isAgg20
  z20 := Tryz.sizeOf20
  v20 := Tryz.zeroValue20
  t37 := Tryz.underlying71
  a37 := Tryz.isAgg71
  z37 := Tryz.sizeOf71
  v37 := Tryz.zeroValue71
  t46 := Tryz.underlying112
  a46 := Tryz.isAgg112
  z46 := Tryz.sizeOf112
  v46 := Tryz.zeroValue112
  t51 := Tryz.underlying151
  a51 := Tryz.isAgg151
  z51 := Tryz.sizeOf151
  v51 := Tryz.zeroValue151
  t53 := Tryz.underlying105
  a53 := Tryz.isAgg105
  z53 := Tryz.sizeOf105
  v53 := Tryz.zeroValue105
  t171 := Tryz.underlying159
  a171 := Tryz.isAgg159
  z171 := Tryz.sizeOf159
  v171 := Tryz.zeroValue159
  t173 := Tryz.underlying161
  a173 := Tryz.isAgg161
  z173 := Tryz.sizeOf161
  v173 := Tryz.zeroValue161
  t212 := Tryz.underlying183
  a212 := Tryz.isAgg183
  z212 := Tryz.sizeOf183
  v212 := Tryz.zeroValue183
  t213 := Tryz.underlying184
  a213 := Tryz.isAgg184
  z213 := Tryz.sizeOf184
  t232 := Tryz.underlying208
  a232 := Tryz.isAgg208
  z232 := Tryz.sizeOf208
  v232 := Tryz.zeroValue208
  t233 := Tryz.underlying209
  a233 := Tryz.isAgg209
  z233 := Tryz.sizeOf209
  v233 := Tryz.zeroValue209
  g17 := by kernel_rfl
  g18 := by kernel_rfl
  g19 := by kernel_rfl
  i0 := by kernel_rfl
  i2 := by kernel_rfl
  i3 := by kernel_rfl
  i4 := by kernel_rfl
  i5 := by kernel_rfl
  i9 := by kernel_rfl
  i20 := by kernel_rfl
  i37 := by kernel_rfl
  i46 := by kernel_rfl
  i51 := by kernel_rfl
  i53 := by kernel_rfl
  i171 := by kernel_rfl
  i173 := by kernel_rfl
  i212 := by kernel_rfl
  i232 := by kernel_rfl
  i233 := by kernel_rfl
  m17 := by kernel_rfl
  m18 := by kernel_rfl
  m19 := by kernel_rfl }
open Go.RowKit Go.Sort Go.Lib in
/-- strconv.Itoa: "Itoa is equivalent to FormatInt(int64(i), 10).": i's DECIMAL NUMERAL ('Lib.itoa': a '-' where i is negative, then the digits), FOR EVERY int. The world behind the call: the world before it, new blocks behind the heap (the library's 'var a [24]byte'), draws. (LAID: no walk: one application.) -/
theorem Tryz.strconv_Itoa (n : Int) (h0 : -9223372036854775808 ≤ n) (h1 : n ≤ 9223372036854775807) (w : World) (htab : Lib.TabIs Tryz.prog w "internal/strconv.uint64pow10" .u64 Lib.pow10Tab) :
    Calls Tryz.prog 38 #[.int .i64 n] w fun e w' => e = .returned (.string ⟨(Lib.itoa n).toArray⟩) ∧ ∃ k os, w' = grow (w.drewN k) os := Any.strconv_Itoa Tryz.laysM171 n h0 h1 w htab
def Tryz.laysC172_ren : Go.Shelf.Ren := ⟨fun | 172 => 93 | 244 => 129 | 245 => 130 | 247 => 152 | 279 => 153 | 280 => 154 | 281 => 155 | 282 => 156 | 287 => 162 | 316 => 163 | 171 => 38 | 205 => 164 | 321 => 166 | 322 => 167 | 243 => 67 | 246 => 85 | 283 => 117 | 284 => 118 | 285 => 119 | 286 => 120 | 129 => 110 | 317 => 145 | 318 => 146 | 319 => 147 | 320 => 148 | 337 => 160 | 338 => 161 | n => n, fun | 9 => 9 | 3 => 3 | 75 => 76 | 76 => 77 | 4 => 4 | 5 => 5 | 167 => 187 | 37 => 71 | 0 => 0 | 85 => 188 | 2 => 2 | 168 => 190 | 53 => 105 | 175 => 202 | 46 => 112 | 210 => 205 | 127 => 113 | 145 => 213 | 143 => 211 | 21 => 21 | 171 => 159 | 173 => 161 | 212 => 183 | 51 => 151 | 20 => 20 | 213 => 184 | 232 => 208 | 233 => 209 | 80 => 69 | n => n, fun | 15 => 4 | 16 => 5 | 17 => 1 | 18 => 6 | 19 => 7 | n => n⟩
theorem Tryz.laysC172 : Go.Proofs.LaysC.n172 Tryz.prog Tryz.laysC172_ren := {
  mixed := by kernel_rfl
  f129 := Tryz.func110.trans (congrArg some (by kernel_rfl))
  f171 := Tryz.func38.trans (congrArg some (by kernel_rfl))
  f172 := Tryz.func93.trans (congrArg some (by kernel_rfl))
  f205 := Tryz.func164.trans (congrArg some (by kernel_rfl))
  f243 := Tryz.func67.trans (congrArg some (by kernel_rfl))
  f244 := Tryz.func129.trans (congrArg some (by kernel_rfl))
  f245 := Tryz.func130.trans (congrArg some (by kernel_rfl))
  f246 := Tryz.func85.trans (congrArg some (by kernel_rfl))
  f247 := Tryz.func152.trans (congrArg some (by kernel_rfl))
  f279 := Tryz.func153.trans (congrArg some (by kernel_rfl))
  f280 := Tryz.func154.trans (congrArg some (by kernel_rfl))
  f281 := Tryz.func155.trans (congrArg some (by kernel_rfl))
  f282 := Tryz.func156.trans (congrArg some (by kernel_rfl))
  f283 := Tryz.func117.trans (congrArg some (by kernel_rfl))
  f284 := Tryz.func118.trans (congrArg some (by kernel_rfl))
  f285 := Tryz.func119.trans (congrArg some (by kernel_rfl))
  f286 := Tryz.func120.trans (congrArg some (by kernel_rfl))
  f287 := Tryz.func162.trans (congrArg some (by kernel_rfl))
  f316 := Tryz.func163.trans (congrArg some (by kernel_rfl))
  f317 := Tryz.func145.trans (congrArg some (by kernel_rfl))
  f318 := Tryz.func146.trans (congrArg some (by kernel_rfl))
  f319 := Tryz.func147.trans (congrArg some (by kernel_rfl))
  f320 := Tryz.func148.trans (congrArg some (by kernel_rfl))
  f321 := Tryz.func166.trans (congrArg some (by kernel_rfl))
  f322 := Tryz.func167.trans (congrArg some (by kernel_rfl))
  f337 := Tryz.func160.trans (congrArg some (by kernel_rfl))
  f338 := Tryz.func161.trans (congrArg some (by kernel_rfl))
  t0 := Tryz.underlying0
  a0 := Tryz.isAgg0
  z0 := Tryz.sizeOf0
  v0 := Tryz.zeroValue0
  t2 := Tryz.underlying2
  a2 := Tryz.isAgg2
  z2 := Tryz.sizeOf2
  v2 := Tryz.zeroValue2
  t3 := Tryz.underlying3
  a3 := Tryz.isAgg3
  z3 := Tryz.sizeOf3
  v3 := Tryz.zeroValue3
  t4 := Tryz.underlying4
  a4 := Tryz.isAgg4
  z4 := Tryz.sizeOf4
  v4 := Tryz.zeroValue4
  t5 := Tryz.underlying5
  a5 := Tryz.isAgg5
  z5 := Tryz.sizeOf5
  v5 := Tryz.zeroValue5
  t9 := Tryz.underlying9
  a9 := Tryz.isAgg9
  z9 := Tryz.sizeOf9
  v9 := Tryz.zeroValue9
  t20 := Tryz.underlying20
  a20 := Tryz.isAgg20
  z20 := Tryz.sizeOf20
  v20 := Tryz.zeroValue20
  t21 := Tryz.underlying21
  a21 := Tryz.isAgg21
  z21 := Tryz.sizeOf21
  v21 := Tryz.zeroValue21
  t37 := Tryz.underlying71
  a37 := Tryz.isAgg71
  z37 := Tryz.sizeOf71
  v37 := Tryz.zeroValue71
  t46 := Tryz.underlying112
  a46 := Tryz.isAgg112
  z46 := Tryz.sizeOf112
  v46 := Tryz.zeroValue112
  t51 := Tryz.underlying151
  a51 := Tryz.isAgg151
  z51 := Tryz.sizeOf151
  v51 := Tryz.zeroValue151
  t53 := Tryz.underlying105
  a53 := Tryz.isAgg105
  z53 := Tryz.sizeOf105
  v53 := Tryz.zeroValue105
  t75 := Tryz.underlying76
  a75 := Tryz.isAgg76
  z75 := Tryz.sizeOf76
  v75 := Tryz.zeroValue76
  t76 := Tryz.underlying77
  a76 := Tryz.isAgg77
  z76 := Tryz.sizeOf77
  v76 := Tryz.zeroValue77
  t85 := Tryz.underlying188
  a85 := Tryz.isAgg188
  z85 := Tryz.sizeOf188
  v85 := Tryz.zeroValue188
  t127 := Tryz.underlying113
  a127 := Tryz.isAgg113
  z127 := Tryz.sizeOf113
  v127 := Tryz.zeroValue113
  t143 := Tryz.underlying211
  a143 := Tryz.isAgg211
  z143 := Tryz.sizeOf211
  v143 := Tryz.zeroValue211
  t145 := Tryz.underlying213
  a145 := Tryz.isAgg213
  z145 := Tryz.sizeOf213
  v145 := Tryz.zeroValue213
  t167 := Tryz.underlying187
  a167 := Tryz.isAgg187
  z167 := Tryz.sizeOf187
  v167 := Tryz.zeroValue187
  t168 := Tryz.underlying190
  a168 := Tryz.isAgg190
  z168 := Tryz.sizeOf190
  v168 := Tryz.zeroValue190
  t171 := Tryz.underlying159
  a171 := Tryz.isAgg159
  z171 := Tryz.sizeOf159
  v171 := Tryz.zeroValue159
  t173 := Tryz.underlying161
  a173 := Tryz.isAgg161
  z173 := Tryz.sizeOf161
  v173 := Tryz.zeroValue161
  t175 := Tryz.underlying202
  a175 := Tryz.isAgg202
  z175 := Tryz.sizeOf202
  v175 := Tryz.zeroValue202
  t210 := Tryz.underlying205
  a210 := Tryz.isAgg205
  z210 := Tryz.sizeOf205
  v210 := Tryz.zeroValue205
  t212 := Tryz.underlying183
  a212 := Tryz.isAgg183
  z212 := Tryz.sizeOf183
  v212 := Tryz.zeroValue183
  t213 := Tryz.underlying184
  a213 := Tryz.isAgg184
  z213 := Tryz.sizeOf184
  t232 := Tryz.underlying208
  a232 := Tryz.isAgg208
  z232 := Tryz.sizeOf208
  v232 := Tryz.zeroValue208
  t233 := Tryz.underlying209
  a233 := Tryz.isAgg209
  z233 := Tryz.sizeOf209
  v233 := Tryz.zeroValue209
  g15 := by kernel_rfl
  g16 := by kernel_rfl
  g17 := by kernel_rfl
  g18 := by kernel_rfl
  g19 := by kernel_rfl
  t80 := Tryz.underlying69
  a80 := Tryz.isAgg69
  z80 := Tryz.sizeOf69
  v80 := Tryz.zeroValue69
  i0 := by kernel_rfl
  i2 := by kernel_rfl
  i3 := by kernel_rfl
  i4 := by kernel_rfl
  i5 := by kernel_rfl
  i9 := by kernel_rfl
  i20 := by kernel_rfl
  i21 := by kernel_rfl
  i37 := by kernel_rfl
  i46 := by kernel_rfl
  i51 := by kernel_rfl
  i53 := by kernel_rfl
  i75 := by kernel_rfl
  i76 := by kernel_rfl
  i80 := by kernel_rfl
  i85 := by kernel_rfl
  i127 := by kernel_rfl
  i143 := by kernel_rfl
  i145 := by kernel_rfl
  i167 := by kernel_rfl
  i168 := by kernel_rfl
  i171 := by kernel_rfl
  i173 := by kernel_rfl
  i175 := by kernel_rfl
  i210 := by kernel_rfl
  i212 := by kernel_rfl
  i232 := by kernel_rfl
  i233 := by kernel_rfl
  m15 := by kernel_rfl
  m16 := by kernel_rfl
  m17 := by kernel_rfl
  m18 := by kernel_rfl
  m19 := by kernel_rfl
  c0 := by kernel_rfl
  c2 := by kernel_rfl
  c3 := by kernel_rfl
  c4 := by kernel_rfl
  c5 := by kernel_rfl
  c9 := by kernel_rfl
  c20 := by kernel_rfl
  c21 := by kernel_rfl
  c37 := by kernel_rfl
  c46 := by kernel_rfl
  c51 := by kernel_rfl
  c53 := by kernel_rfl
  c75 := by kernel_rfl
  c76 := by kernel_rfl
  c80 := by kernel_rfl
  c85 := by kernel_rfl
  c127 := by kernel_rfl
  c143 := by kernel_rfl
  c145 := by kernel_rfl
  c167 := by kernel_rfl
  c168 := by kernel_rfl
  c171 := by kernel_rfl
  c173 := by kernel_rfl
  c175 := by kernel_rfl
  c210 := by kernel_rfl
  c212 := by kernel_rfl
  c213 := by kernel_rfl
  c232 := by kernel_rfl
  c233 := by kernel_rfl }
open Go.RowKit in
/-- strconv.Atoi, AT EVERY STRING THAT SPELLS AN int ('Lib.atoiAll .. = .ok v'; of whatever length: leading zeros count): v, AND NO ERROR. The world: as it was, or with the one new row that '[]byte(..)' lays. (LAID: no walk: one application.) -/
theorem Tryz.strconv_Atoi_ok (s : ByteArray) (hmax : s.size ≤ 9223372036854775806) (v : Int) (h : Lib.atoiAll s.data.toList = .ok v) (w : World) :
    Calls Tryz.prog 93 #[.string s] w fun e w' => e = .returned (.tuple #[.int .i64 v, .nilIface]) ∧ (w' = w ∨ ∃ t, w' = Lib.bytesWorld w 5 t) := Any.strconv_Atoi_ok Tryz.laysC172 s hmax v h w
open Go.RowKit in
/-- strconv.Atoi, AT EVERY STRING THAT IS NO DECIMAL NUMERAL (as the empty text): 0, AND AN ERROR THAT IS NOT nil: a *NumError in a new block N: {Func: "Atoi", Num: s's bytes, Err: what the variable ErrSyntax holds}. Of what was there nothing has turned. (LAID: no walk: one application.) -/
theorem Tryz.strconv_Atoi_syntax (s : ByteArray) (hlim : s.size ≤ 281474976710656) (h : Lib.atoiAll s.data.toList = Lib.atoiAll []) (ev : Value) (w : World) (hv : w.cell? ⟨4, 0, none⟩ = some ev) (hev : ev = .nilIface ∨ ∃ te pe, ev = .iface te pe) :
    Calls Tryz.prog 93 #[.string s] w fun e w' => ∃ N, e = .returned (.tuple #[.int .i64 (0), .iface 190 (.pointer (some ⟨N, 0, none⟩))]) ∧ w.heap.size ≤ N ∧ w'.heap[N]? = some (.cells #[.string ⟨#[65, 116, 111, 105]⟩, .string s, ev] 205 (0, 0)) ∧ Below w.heap.size w w' := Any.strconv_Atoi_syntax Tryz.laysC172 s hlim h ev w hv hev
open Go.RowKit in
/-- strconv.Atoi, AT EVERY NUMERAL THAT NO int HOLDS ('.range'): THE GREATEST OR THE LEAST int, BY THE SIGN ('Lib.atoiSat'), AND AN ERROR THAT IS NOT nil: a *NumError in a new block N: {Func: "Atoi", Num: s's bytes, Err: what the variable ErrRange holds}. Of what was there nothing has turned. (LAID: no walk: one application.) -/
theorem Tryz.strconv_Atoi_range (s : ByteArray) (hlim : s.size ≤ 281474976710656) (h : Lib.atoiAll s.data.toList = .range) (ev : Value) (w : World) (hv : w.cell? ⟨5, 0, none⟩ = some ev) (hev : ev = .nilIface ∨ ∃ te pe, ev = .iface te pe) :
    Calls Tryz.prog 93 #[.string s] w fun e w' => ∃ N, e = .returned (.tuple #[.int .i64 (Lib.atoiSat s.data.toList), .iface 190 (.pointer (some ⟨N, 0, none⟩))]) ∧ w.heap.size ≤ N ∧ w'.heap[N]? = some (.cells #[.string ⟨#[65, 116, 111, 105]⟩, .string s, ev] 205 (0, 0)) ∧ Below w.heap.size w w' := Any.strconv_Atoi_range Tryz.laysC172 s hlim h ev w hv hev
def Tryz.lays145_ren : Go.Shelf.Ren := ⟨fun | 145 => 43 | 220 => 70 | 219 => 89 | 217 => 122 | 225 => 123 | 224 => 124 | 267 => 125 | 266 => 149 | 314 => 150 | n => n, fun | 9 => 9 | 4 => 4 | 59 => 82 | 3 => 3 | 5 => 5 | 46 => 112 | 146 => 167 | 51 => 151 | n => n, fun | 1 => 0 | n => n⟩
theorem Tryz.lays145 : Go.Proofs.Lays.n145 Tryz.prog Tryz.lays145_ren := {
  mixed := by kernel_rfl
  f145 := Tryz.func43.trans (congrArg some (by kernel_rfl))
  f217 := Tryz.func122.trans (congrArg some (by kernel_rfl))
  f219 := Tryz.func89.trans (congrArg some (by kernel_rfl))
  f220 := Tryz.func70.trans (congrArg some (by kernel_rfl))
  f224 := Tryz.func124.trans (congrArg some (by kernel_rfl))
  f225 := Tryz.func123.trans (congrArg some (by kernel_rfl))
  f266 := Tryz.func149.trans (congrArg some (by kernel_rfl))
  f267 := Tryz.func125.trans (congrArg some (by kernel_rfl))
  f314 := Tryz.func150.trans (congrArg some (by kernel_rfl))
  t3 := Tryz.underlying3
  a3 := Tryz.isAgg3
  z3 := Tryz.sizeOf3
  v3 := Tryz.zeroValue3
  t4 := Tryz.underlying4
  a4 := Tryz.isAgg4
  z4 := Tryz.sizeOf4
  v4 := Tryz.zeroValue4
  t5 := Tryz.underlying5
  a5 := Tryz.isAgg5
  z5 := Tryz.sizeOf5
  v5 := Tryz.zeroValue5
  t9 := Tryz.underlying9
  a9 := Tryz.isAgg9
  z9 := Tryz.sizeOf9
  v9 := Tryz.zeroValue9
  t46 := Tryz.underlying112
  a46 := Tryz.isAgg112
  z46 := Tryz.sizeOf112
  v46 := Tryz.zeroValue112
  t51 := Tryz.underlying151
  a51 := Tryz.isAgg151
  z51 := Tryz.sizeOf151
  v51 := Tryz.zeroValue151
  t59 := Tryz.underlying82
  a59 := Tryz.isAgg82
  z59 := Tryz.sizeOf82
  v59 := Tryz.zeroValue82
  t146 := Tryz.underlying167
  a146 := Tryz.isAgg167
  z146 := Tryz.sizeOf167
  v146 := Tryz.zeroValue167
  g1 := by kernel_rfl }
open Go.RowKit Go.Lib in
/-- strings.Cut: "Cut slices s around the first instance of sep, returning the text before and after sep. The found result reports whether sep appears in s. If sep does not appear in s, cut returns s, "", false.": IT RETURNS 'Lib.cut s sep'; the world is as it was but for the count of draws. (LAID: no walk: one application.) -/
theorem Tryz.strings_Cut (s sep : ByteArray) (m : Int) (w : World) (hs : s.size < 4294967281) (hm : w.cell? ⟨0, 0, none⟩ = some (.int .i64 m)) :
    Calls Tryz.prog 43 #[.string s, .string sep] w fun e w' => e = .returned (.tuple #[.string ⟨(Lib.cut s.data.toList sep.data.toList).1.toArray⟩, .string ⟨(Lib.cut s.data.toList sep.data.toList).2.1.toArray⟩, .bool (Lib.cut s.data.toList sep.data.toList).2.2]) ∧ ∃ n, w' = w.drewN n := Any.strings_Cut Tryz.lays145 s sep m w hs hm
def Tryz.lays190_ren : Go.Shelf.Ren := ⟨fun | 190 => 56 | 125 => 80 | 258 => 79 | 128 => 109 | 129 => 110 | 302 => 100 | 303 => 101 | 304 => 102 | 305 => 103 | 306 => 104 | 307 => 105 | 308 => 106 | 309 => 107 | 310 => 108 | 333 => 135 | 329 => 136 | 330 => 137 | 334 => 138 | 335 => 139 | 336 => 140 | 344 => 158 | n => n, fun | 31 => 57 | 9 => 9 | 3 => 3 | 46 => 112 | 0 => 0 | 51 => 151 | 53 => 105 | 4 => 4 | 183 => 145 | 182 => 144 | 131 => 117 | 5 => 5 | 218 => 171 | 222 => 175 | 228 => 194 | 229 => 195 | n => n, fun | n => n⟩
theorem Tryz.lays190 : Go.Proofs.Lays.n190 Tryz.prog Tryz.lays190_ren := {
  mixed := by kernel_rfl
  f125 := Tryz.func80.trans (congrArg some (by kernel_rfl))
  f128 := Tryz.func109.trans (congrArg some (by kernel_rfl))
  f129 := Tryz.func110.trans (congrArg some (by kernel_rfl))
  f190 := Tryz.func56.trans (congrArg some (by kernel_rfl))
  f258 := Tryz.func79.trans (congrArg some (by kernel_rfl))
  f302 := Tryz.func100.trans (congrArg some (by kernel_rfl))
  f303 := Tryz.func101.trans (congrArg some (by kernel_rfl))
  f304 := Tryz.func102.trans (congrArg some (by kernel_rfl))
  f305 := Tryz.func103.trans (congrArg some (by kernel_rfl))
  f306 := Tryz.func104.trans (congrArg some (by kernel_rfl))
  f307 := Tryz.func105.trans (congrArg some (by kernel_rfl))
  f308 := Tryz.func106.trans (congrArg some (by kernel_rfl))
  f309 := Tryz.func107.trans (congrArg some (by kernel_rfl))
  f310 := Tryz.func108.trans (congrArg some (by kernel_rfl))
  f329 := Tryz.func136.trans (congrArg some (by kernel_rfl))
  f330 := Tryz.func137.trans (congrArg some (by kernel_rfl))
  f333 := Tryz.func135.trans (congrArg some (by kernel_rfl))
  f334 := Tryz.func138.trans (congrArg some (by kernel_rfl))
  f335 := Tryz.func139.trans (congrArg some (by kernel_rfl))
  f336 := Tryz.func140.trans (congrArg some (by kernel_rfl))
  f344 := Tryz.func158.trans (congrArg some (by kernel_rfl))
  t0 := Tryz.underlying0
  a0 := Tryz.isAgg0
  z0 := Tryz.sizeOf0
  v0 := Tryz.zeroValue0
  t3 := Tryz.underlying3
  a3 := Tryz.isAgg3
  z3 := Tryz.sizeOf3
  v3 := Tryz.zeroValue3
  t4 := Tryz.underlying4
  a4 := Tryz.isAgg4
  z4 := Tryz.sizeOf4
  v4 := Tryz.zeroValue4
  t5 := Tryz.underlying5
  a5 := Tryz.isAgg5
  z5 := Tryz.sizeOf5
  v5 := Tryz.zeroValue5
  t9 := Tryz.underlying9
  a9 := Tryz.isAgg9
  z9 := Tryz.sizeOf9
  v9 := Tryz.zeroValue9
  t31 := Tryz.underlying57
  a31 := Tryz.isAgg57
  z31 := Tryz.sizeOf57
  v31 := Tryz.zeroValue57
  t46 := Tryz.underlying112
  a46 := Tryz.isAgg112
  z46 := Tryz.sizeOf112
  v46 := Tryz.zeroValue112
  t51 := Tryz.underlying151
  a51 := Tryz.isAgg151
  z51 := Tryz.sizeOf151
  v51 := Tryz.zeroValue151
  t53 := Tryz.underlying105
  a53 := Tryz.isAgg105
  z53 := Tryz.sizeOf105
  v53 := Tryz.zeroValue105
  t131 := Tryz.underlying117
  a131 := Tryz.isAgg117
  z131 := Tryz.sizeOf117
  v131 := Tryz.zeroValue117
  t182 := Tryz.underlying144
  a182 := Tryz.isAgg144
  z182 := Tryz.sizeOf144
  v182 := Tryz.zeroValue144
  t183 := Tryz.underlying145
  a183 := Tryz.isAgg145
  z183 := Tryz.sizeOf145
  v183 := Tryz.zeroValue145
  t218 := Tryz.underlying171
  a218 := Tryz.isAgg171
  z218 := Tryz.sizeOf171
  v218 := Tryz.zeroValue171
  t222 := Tryz.underlying175
  a222 := Tryz.isAgg175
  z222 := Tryz.sizeOf175
  v222 := Tryz.zeroValue175
  t228 := Tryz.underlying194
  a228 := Tryz.isAgg194
  z228 := Tryz.sizeOf194
  v228 := Tryz.zeroValue194
  t229 := Tryz.underlying195
  a229 := Tryz.isAgg195
  z229 := Tryz.sizeOf195
  v229 := Tryz.zeroValue195 }
open Go.Sort Go.RowKit in
theorem Tryz.slices_Sort_string (blk off cap : Nat) (ss : List (List UInt8)) (w : World) (hH : Holds encStr w blk off ss.toArray) (hblk : blk < w.heap.size) (hsz : ss.length < 4611686018427387904) :
    Calls Tryz.prog 56 #[.slice (some ⟨blk, off, none⟩) ss.length cap] w fun e w' =>
      e = .returned (.tuple #[]) ∧ ∃ n os, w' = grow (putRow encStr (Sort.ahead w n) blk off (ss.mergeSort fun x y => decide (x ≤ y)).toArray) os := Any.slices_Sort_string Tryz.lays190 blk off cap ss w hH hblk hsz
def Tryz.lays146_ren : Go.Shelf.Ren := ⟨fun | 146 => 44 | 221 => 71 | 268 => 90 | 138 => 91 | 143 => 92 | 195 => 126 | 197 => 127 | 218 => 128 | 219 => 89 | 260 => 151 | 217 => 122 | 225 => 123 | 224 => 124 | 267 => 125 | 266 => 149 | 314 => 150 | n => n, fun | 9 => 9 | 31 => 57 | 3 => 3 | 4 => 4 | 0 => 0 | 105 => 164 | 21 => 21 | 5 => 5 | 46 => 112 | 119 => 198 | 139 => 201 | 138 => 200 | 146 => 167 | 51 => 151 | n => n, fun | 1 => 0 | 3 => 2 | 4 => 3 | n => n⟩
theorem Tryz.lays146 : Go.Proofs.Lays.n146 Tryz.prog Tryz.lays146_ren := {
  mixed := by kernel_rfl
  f138 := Tryz.func91.trans (congrArg some (by kernel_rfl))
  f143 := Tryz.func92.trans (congrArg some (by kernel_rfl))
  f146 := Tryz.func44.trans (congrArg some (by kernel_rfl))
  f195 := Tryz.func126.trans (congrArg some (by kernel_rfl))
  f197 := Tryz.func127.trans (congrArg some (by kernel_rfl))
  f217 := Tryz.func122.trans (congrArg some (by kernel_rfl))
  f218 := Tryz.func128.trans (congrArg some (by kernel_rfl))
  f219 := Tryz.func89.trans (congrArg some (by kernel_rfl))
  f221 := Tryz.func71.trans (congrArg some (by kernel_rfl))
  f224 := Tryz.func124.trans (congrArg some (by kernel_rfl))
  f225 := Tryz.func123.trans (congrArg some (by kernel_rfl))
  f260 := Tryz.func151.trans (congrArg some (by kernel_rfl))
  f266 := Tryz.func149.trans (congrArg some (by kernel_rfl))
  f267 := Tryz.func125.trans (congrArg some (by kernel_rfl))
  f268 := Tryz.func90.trans (congrArg some (by kernel_rfl))
  f314 := Tryz.func150.trans (congrArg some (by kernel_rfl))
  t0 := Tryz.underlying0
  a0 := Tryz.isAgg0
  z0 := Tryz.sizeOf0
  v0 := Tryz.zeroValue0
  t3 := Tryz.underlying3
  a3 := Tryz.isAgg3
  z3 := Tryz.sizeOf3
  v3 := Tryz.zeroValue3
  t4 := Tryz.underlying4
  a4 := Tryz.isAgg4
  z4 := Tryz.sizeOf4
  v4 := Tryz.zeroValue4
  t5 := Tryz.underlying5
  a5 := Tryz.isAgg5
  z5 := Tryz.sizeOf5
  v5 := Tryz.zeroValue5
  t9 := Tryz.underlying9
  a9 := Tryz.isAgg9
  z9 := Tryz.sizeOf9
  v9 := Tryz.zeroValue9
  t21 := Tryz.underlying21
  a21 := Tryz.isAgg21
  z21 := Tryz.sizeOf21
  v21 := Tryz.zeroValue21
  t31 := Tryz.underlying57
  a31 := Tryz.isAgg57
  z31 := Tryz.sizeOf57
  v31 := Tryz.zeroValue57
  t46 := Tryz.underlying112
  a46 := Tryz.isAgg112
  z46 := Tryz.sizeOf112
  v46 := Tryz.zeroValue112
  t51 := Tryz.underlying151
  a51 := Tryz.isAgg151
  z51 := Tryz.sizeOf151
  v51 := Tryz.zeroValue151
  t105 := Tryz.underlying164
  a105 := Tryz.isAgg164
  z105 := Tryz.sizeOf164
  v105 := Tryz.zeroValue164
  t119 := Tryz.underlying198
  a119 := Tryz.isAgg198
  z119 := Tryz.sizeOf198
  t138 := Tryz.underlying200
  a138 := Tryz.isAgg200
  z138 := Tryz.sizeOf200
  v138 := Tryz.zeroValue200
  t139 := Tryz.underlying201
  a139 := Tryz.isAgg201
  z139 := Tryz.sizeOf201
  v139 := Tryz.zeroValue201
  t146 := Tryz.underlying167
  a146 := Tryz.isAgg167
  z146 := Tryz.sizeOf167
  v146 := Tryz.zeroValue167
  g1 := by kernel_rfl
  g3 := by kernel_rfl
  g4 := by kernel_rfl }
open Go.RowKit Go.Lib in
/-- strings.Split. (LAID: no walk: one application.) -/
theorem Tryz.strings_Split (s sep : ByteArray) (m : Int) (w : World) (hs : s.size < 4294967281) (hm : w.cell? ⟨0, 0, none⟩ = some (.int .i64 m)) (h1 : 1 ≤ sep.size) :
    Calls Tryz.prog 44 #[.string s, .string sep] w fun e w' =>
      e = .returned (.slice (some ⟨w.heap.size, 0, none⟩) (Lib.countB s sep + 1) (Lib.countB s sep + 1)) ∧ w' = w.alloc (.cells ((Lib.splitB sep 0 (Lib.countB s sep) s).map Value.string).toArray 9) := Any.strings_Split Tryz.lays146 (by kernel_rfl) s sep m w hs hm h1
def Tryz.lays105_ren : Go.Shelf.Ren := ⟨fun | 105 => 78 | 212 => 96 | 99 => 97 | 165 => 98 | 166 => 37 | 170 => 99 | 169 => 39 | 263 => 131 | 264 => 132 | 206 => 133 | 240 => 66 | 241 => 134 | 276 => 84 | 277 => 157 | n => n, fun | 9 => 9 | 3 => 3 | 4 => 4 | 20 => 20 | 0 => 0 | 46 => 112 | 109 => 138 | 5 => 5 | 72 => 73 | 76 => 77 | 51 => 151 | 146 => 167 | 53 => 105 | 148 => 169 | 70 => 70 | 37 => 71 | 75 => 76 | 127 => 113 | 164 => 128 | 80 => 69 | n => n, fun | n => n⟩
theorem Tryz.lays105 : Go.Proofs.Lays.n105 Tryz.prog Tryz.lays105_ren := {
  mixed := by kernel_rfl
  f99 := Tryz.func97.trans (congrArg some (by kernel_rfl))
  f105 := Tryz.func78.trans (congrArg some (by kernel_rfl))
  f165 := Tryz.func98.trans (congrArg some (by kernel_rfl))
  f166 := Tryz.func37.trans (congrArg some (by kernel_rfl))
  f169 := Tryz.func39.trans (congrArg some (by kernel_rfl))
  f170 := Tryz.func99.trans (congrArg some (by kernel_rfl))
  f206 := Tryz.func133.trans (congrArg some (by kernel_rfl))
  f212 := Tryz.func96.trans (congrArg some (by kernel_rfl))
  f240 := Tryz.func66.trans (congrArg some (by kernel_rfl))
  f241 := Tryz.func134.trans (congrArg some (by kernel_rfl))
  f263 := Tryz.func131.trans (congrArg some (by kernel_rfl))
  f264 := Tryz.func132.trans (congrArg some (by kernel_rfl))
  f276 := Tryz.func84.trans (congrArg some (by kernel_rfl))
  f277 := Tryz.func157.trans (congrArg some (by kernel_rfl))
  t0 := Tryz.underlying0
  a0 := Tryz.isAgg0
  z0 := Tryz.sizeOf0
  v0 := Tryz.zeroValue0
  t3 := Tryz.underlying3
  a3 := Tryz.isAgg3
  z3 := Tryz.sizeOf3
  v3 := Tryz.zeroValue3
  t4 := Tryz.underlying4
  a4 := Tryz.isAgg4
  z4 := Tryz.sizeOf4
  v4 := Tryz.zeroValue4
  t5 := Tryz.underlying5
  a5 := Tryz.isAgg5
  z5 := Tryz.sizeOf5
  v5 := Tryz.zeroValue5
  t9 := Tryz.underlying9
  a9 := Tryz.isAgg9
  z9 := Tryz.sizeOf9
  v9 := Tryz.zeroValue9
  t20 := Tryz.underlying20
  a20 := Tryz.isAgg20
  z20 := Tryz.sizeOf20
  v20 := Tryz.zeroValue20
  t37 := Tryz.underlying71
  a37 := Tryz.isAgg71
  z37 := Tryz.sizeOf71
  v37 := Tryz.zeroValue71
  t46 := Tryz.underlying112
  a46 := Tryz.isAgg112
  z46 := Tryz.sizeOf112
  v46 := Tryz.zeroValue112
  t51 := Tryz.underlying151
  a51 := Tryz.isAgg151
  z51 := Tryz.sizeOf151
  v51 := Tryz.zeroValue151
  t53 := Tryz.underlying105
  a53 := Tryz.isAgg105
  z53 := Tryz.sizeOf105
  v53 := Tryz.zeroValue105
  t70 := Tryz.underlying70
  a70 := Tryz.isAgg70
  z70 := Tryz.sizeOf70
  v70 := Tryz.zeroValue70
  t72 := Tryz.underlying73
  a72 := Tryz.isAgg73
  z72 := Tryz.sizeOf73
  v72 := Tryz.zeroValue73
  t75 := Tryz.underlying76
  a75 := Tryz.isAgg76
  z75 := Tryz.sizeOf76
  v75 := Tryz.zeroValue76
  t76 := Tryz.underlying77
  a76 := Tryz.isAgg77
  z76 := Tryz.sizeOf77
  v76 := Tryz.zeroValue77
  t109 := Tryz.underlying138
  a109 := Tryz.isAgg138
  z109 := Tryz.sizeOf138
  v109 := Tryz.zeroValue138
  t127 := Tryz.underlying113
  a127 := Tryz.isAgg113
  z127 := Tryz.sizeOf113
  v127 := Tryz.zeroValue113
  t146 := Tryz.underlying167
  a146 := Tryz.isAgg167
  z146 := Tryz.sizeOf167
  v146 := Tryz.zeroValue167
  t148 := Tryz.underlying169
  a148 := Tryz.isAgg169
  z148 := Tryz.sizeOf169
  v148 := Tryz.zeroValue169
  t164 := Tryz.underlying128
  a164 := Tryz.isAgg128
  z164 := Tryz.sizeOf128
  v164 := Tryz.zeroValue128 }
theorem Tryz.Builder_Extra_105 : Builder.Extra Tryz.prog Tryz.lays105_ren := {
  sizeBuilder := by kernel_rfl
  liesBuilder := by kernel_rfl
  t5 := Tryz.underlying5
  a5 := Tryz.isAgg5
  z5 := Tryz.sizeOf5
  v5 := Tryz.zeroValue5
  infoByte := by kernel_rfl
  cellsByte := by kernel_rfl
  sizeByte := by kernel_rfl
  neB5 := by decide }
open Go.RowKit Go.Lib in
/-- **strings.Repeat: count ≥ 0, the result within one allocation: count copies of s.** (LAID: no walk: one application.) -/
theorem Tryz.strings_Repeat (s : ByteArray) (c : Nat) (w : World) (hc : c ≤ 9223372036854775807) (hlen : s.size * c ≤ 140737488355328) :
    Calls Tryz.prog 78 #[.string s, .int .i64 c] w fun e w' => e = .returned (.string ⟨(Lib.repeatL s.data.toList c).toArray⟩) ∧ Below w.heap.size w w' := Any.strings_Repeat Tryz.lays105 Tryz.Builder_Extra_105 s c w hc hlen
def Tryz.lays194_ren : Go.Shelf.Ren := ⟨fun | 194 => 57 | n => n, fun | 31 => 57 | 9 => 9 | 3 => 3 | 4 => 4 | 0 => 0 | n => n, fun | n => n⟩
theorem Tryz.lays194 : Go.Proofs.Lays.n194 Tryz.prog Tryz.lays194_ren := {
  mixed := by kernel_rfl
  f194 := Tryz.func57.trans (congrArg some (by kernel_rfl))
  t0 := Tryz.underlying0
  a0 := Tryz.isAgg0
  z0 := Tryz.sizeOf0
  v0 := Tryz.zeroValue0
  t3 := Tryz.underlying3
  a3 := Tryz.isAgg3
  z3 := Tryz.sizeOf3
  v3 := Tryz.zeroValue3
  t4 := Tryz.underlying4
  a4 := Tryz.isAgg4
  z4 := Tryz.sizeOf4
  v4 := Tryz.zeroValue4
  t9 := Tryz.underlying9
  a9 := Tryz.isAgg9
  z9 := Tryz.sizeOf9
  v9 := Tryz.zeroValue9
  t31 := Tryz.underlying57
  a31 := Tryz.isAgg57
  z31 := Tryz.sizeOf57
  v31 := Tryz.zeroValue57 }
open Go.RowKit Go.Lib Go.Sort in
/-- slices.Compact at []string: "Compact replaces consecutive runs of equal elements with a single copy. This is like the uniq command found on Unix. Compact modifies the contents of the slice s and returns the modified slice, which may have a smaller length. Compact zeroes the elements between the new length and the original length. The result preserves the nilness of s.": IT RETURNS THE SLICE CUT TO 'Lib.compact zs'; ITS CELLS HOLD 'Lib.compact zs', THEN ZERO VALUES up to the old length; all else is as it was, but for the count of draws. IN THE WORDS OF slices.Sort's CONTRACT ('Holds', 'putRow'): so the everyday 'slices.Sort(xs); xs = slices.Compact(xs)' goes from the one contract to the other. It asks 'zs.length ≤ cap' (every slice's: the reslicing 's[:k]' looks at it). Length 0, nil: '.._empty'. (LAID: no walk: one application.) -/
theorem Tryz.slices_Compact_string (blk off cap : Nat) (zs : List (List UInt8)) (w : World) (hH : Holds encStr w blk off zs.toArray) (hsz : zs.length ≤ 9223372036854775807) (hcap : zs.length ≤ cap) :
    Calls Tryz.prog 57 #[.slice (some ⟨blk, off, none⟩) zs.length cap] w fun e w' => e = .returned (.slice (some ⟨blk, off, none⟩) (Lib.compact zs).length cap) ∧ ∃ q, w' = putRow encStr (Sort.ahead w q) blk off (Lib.compact zs ++ List.replicate (zs.length - (Lib.compact zs).length) []).toArray := Any.slices_Compact_string Tryz.lays194 blk off cap zs w hH hsz hcap
open Go.RowKit Go.Lib Go.Sort in
/-- The same at a slice of length 0, a nil one too: it comes back as it is. (LAID: no walk: one application.) -/
theorem Tryz.slices_Compact_string_empty (a : Option Addr) (cap : Nat) (w : World) :
    Calls Tryz.prog 57 #[.slice a 0 cap] w fun e w' => e = .returned (.slice a 0 cap) ∧ w' = w := Any.slices_Compact_string_empty Tryz.lays194 a cap w
open Go.RowKit Go.Sort in
/-- .. and plain. (LAID: no walk: one application.) -/
theorem Tryz.slices_Sort_string_none (p : Option Addr) (cap : Nat) (w : World) :
    Calls Tryz.prog 56 #[.slice p 0 cap] w fun e w' => e = .returned (.tuple #[]) ∧ w' = w := Any.slices_Sort_string_none Tryz.lays190 p cap w
end Go.Proofs
