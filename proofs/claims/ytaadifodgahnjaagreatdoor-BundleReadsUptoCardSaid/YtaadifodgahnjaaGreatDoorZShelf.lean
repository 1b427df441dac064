/- DERIVED: THE SHELF's CONTRACTS AT THIS DUMP,IN PLAIN WORDS (tools/lay-plain.mjs out of 'YtaadifodgahnjaaGreatDoorShelf.lean',which tools/lay-shelf.mjs wrote): THE SAME DECLARATIONS UNDER THE SAME NA -/
import Derived.Shelf.SlSortCmp.WholeK
import Derived.Ground.SlsfProg
import Derived.Shelf.Spec.SlicesGrow
import Derived.Ground.Names7Prog
import Derived.Ground.NamesProg
import Derived.Shelf.Strings.Builder1
import Derived.Shelf.Strings.Builder2
import Derived.Shelf.Small.Utf8
import Derived.Shelf.Small.Bits
import Derived.Shelf.Small.Strs
import Derived.Shelf.Utf8.RuneCount
import Derived.Shelf.Strconv.Atoi
import Derived.Shelf.Strconv.Itoa0
import Derived.Shelf.Strconv.Itoa1
import Derived.Shelf.LaysM
import Derived.Shelf.Strconv.Itoa2
import Derived.Shelf.Strconv.Itoa3
import Derived.Shelf.Strconv.AtoiErrFast
import Derived.Shelf.Strconv.ParseIntEmpty
import Derived.Shelf.Strconv.AtoiFail
import Derived.Shelf.Strconv.Clone
import Derived.Shelf.Strconv.SyntaxError
import Derived.Shelf.LaysC
import Derived.Shelf.Strconv.ToError
import Derived.Shelf.Strconv.Lower
import Derived.Shelf.Strconv.ParseUint10
import Derived.Shelf.Strconv.ParseUint10Empty
import Derived.Shelf.Strconv.ParseUint10Any
import Derived.Shelf.Strconv.ParseInt10
import Derived.Shelf.Strconv.AtoiLong
import Derived.Shelf.Strconv.AtoiInnerAll
import Derived.Shelf.Strconv.RangeError
import Derived.Shelf.Strconv.ToErrorRange
import Derived.Shelf.Strconv.AtoiAll
import Derived.Shelf.Strconv.ErrVarAll
import Derived.Shelf.Strings.Search1
import Derived.Shelf.Strings.Search2
import Derived.Shelf.Strings.Search3
import Derived.Shelf.Strings.Cut
import Derived.Shelf.Strings.Count
import Derived.Shelf.Strings.Shaped
import Derived.Shelf.Strings.Prefix
import Derived.Shelf.Strings.Split
import Derived.Shelf.Strings.SplitShaped
import Derived.Shelf.Unicode.Decode
import Derived.Shelf.Strings.Runes
import Derived.Shelf.Strings.RuneCount
import Derived.Shelf.Strings.AsciiSet
import Derived.Shelf.Strings.Explode
import Derived.Shelf.Unicode.DecodeSlow
import Derived.Shelf.Unicode.DecodeAny
import Derived.Shelf.Unicode.DecodeLast
import Derived.Ground.Names2Prog
import Derived.Shelf.Slices.Clone
import Derived.Shelf.Slices.CompactS
import Derived.Shelf.Slices.SearchI
import Derived.Shelf.Slices.Cells
import Derived.Ground.SlgnProg
import Derived.Shelf.SlicesE.Clone
import Derived.Test.YtaadifodgahnjaaGreatDoorProg
namespace Go.Proofs
open Go.Shelf
def Tryz.lays125_ren : Go.Shelf.Ren := ⟨fun | 125 => 86 | 128 => 114 | 129 => 115 | n => n,fun | 46 => 99 | 3 => 3 | 51 => 154 | 53 => 156 | 4 => 4 | 5 => 5 | 9 => 9 | n => n,fun | n => n⟩
theorem Tryz.lays125 : Go.Proofs.Lays.n125 Tryz.prog Tryz.lays125_ren := {
 mixed := by kernel_rfl
 f125 := Tryz.func86.trans (congrArg some (by kernel_rfl))
 f128 := Tryz.func114.trans (congrArg some (by kernel_rfl))
 f129 := Tryz.func115.trans (congrArg some (by kernel_rfl))
 t3 := Tryz.underlying3
 a3 := Tryz.isAgg3
 z3 := Tryz.sizeOf3
 v3 := Tryz.zeroValue3
 t4 := Tryz.underlying4
 a4 := Tryz.isAgg4
 z4 := Tryz.sizeOf4
 v4 := Tryz.zeroValue4
 t5 := Tryz.underlying5
 a5 := Tryz.isAgg5
 z5 := Tryz.sizeOf5
 v5 := Tryz.zeroValue5
 t9 := Tryz.underlying9
 a9 := Tryz.isAgg9
 z9 := Tryz.sizeOf9
 v9 := Tryz.zeroValue9
 t46 := Tryz.underlying99
 a46 := Tryz.isAgg99
 z46 := Tryz.sizeOf99
 v46 := Tryz.zeroValue99
 t51 := Tryz.underlying154
 a51 := Tryz.isAgg154
 z51 := Tryz.sizeOf154
 v51 := Tryz.zeroValue154
 t53 := Tryz.underlying156
 a53 := Tryz.isAgg156
 z53 := Tryz.sizeOf156
 v53 := Tryz.zeroValue156 }
theorem Tryz.bits_Len (x : Int) (w : World) (h0 : 0 ≤ x) (h1 : x ≤ 18446744073709551615) :
  Calls Tryz.prog 86 #[.int .u64 x] w fun e w' => e = .returned (.int .i64 (Lib.bitLen x.toNat)) ∧ w' = w := Any.bits_Len Tryz.lays125 x w h0 h1
def Tryz.lays106_ren : Go.Shelf.Ren := ⟨fun | 106 => 87 | 213 => 116 | 265 => 148 | n => n,fun | 9 => 9 | 3 => 3 | n => n,fun | n => n⟩
theorem Tryz.lays106 : Go.Proofs.Lays.n106 Tryz.prog Tryz.lays106_ren := {
 mixed := by kernel_rfl
 f106 := Tryz.func87.trans (congrArg some (by kernel_rfl))
 f213 := Tryz.func116.trans (congrArg some (by kernel_rfl))
 f265 := Tryz.func148.trans (congrArg some (by kernel_rfl))
 t3 := Tryz.underlying3
 a3 := Tryz.isAgg3
 z3 := Tryz.sizeOf3
 v3 := Tryz.zeroValue3
 t9 := Tryz.underlying9
 a9 := Tryz.isAgg9
 z9 := Tryz.sizeOf9
 v9 := Tryz.zeroValue9 }
open Go.RowKit in
theorem Tryz.strings_Compare (a b : ByteArray) (w : World) :
  Calls Tryz.prog 87 #[.string a,.string b] w fun e w' => e = .returned (.int .i64 (Lib.compareBytes a.data.toList b.data.toList)) ∧ w' = w := Any.strings_Compare Tryz.lays106 a b w
def Tryz.lays137_ren : Go.Shelf.Ren := ⟨fun | 137 => 62 | 217 => 95 | 266 => 123 | n => n,fun | 9 => 9 | 5 => 5 | 3 => 3 | n => n,fun | n => n⟩
theorem Tryz.lays137 : Go.Proofs.Lays.n137 Tryz.prog Tryz.lays137_ren := {
 mixed := by kernel_rfl
 f137 := Tryz.func62.trans (congrArg some (by kernel_rfl))
 f217 := Tryz.func95.trans (congrArg some (by kernel_rfl))
 f266 := Tryz.func123.trans (congrArg some (by kernel_rfl))
 t3 := Tryz.underlying3
 a3 := Tryz.isAgg3
 z3 := Tryz.sizeOf3
 v3 := Tryz.zeroValue3
 t5 := Tryz.underlying5
 a5 := Tryz.isAgg5
 z5 := Tryz.sizeOf5
 v5 := Tryz.zeroValue5
 t9 := Tryz.underlying9
 a9 := Tryz.isAgg9
 z9 := Tryz.sizeOf9
 v9 := Tryz.zeroValue9 }
open Go.RowKit in
theorem Tryz.strings_IndexByte (s : ByteArray) (c : Int) (w : World) :
  Calls Tryz.prog 62 #[.string s,.int .u8 c] w fun e w' => e = .returned (.int .i64 (Lib.indexByte s.data.toList c.toNat.toUInt8)) ∧ w' = w := Any.strings_IndexByte Tryz.lays137 s c w
def Tryz.laysM171_ren : Go.Shelf.Ren := ⟨fun | 171 => 45 | 243 => 88 | 246 => 117 | 283 => 149 | 284 => 150 | 285 => 151 | 286 => 152 | 129 => 115 | 317 => 179 | 318 => 180 | 319 => 181 | 320 => 182 | 337 => 215 | 338 => 216 | n => n,fun | 3 => 3 | 9 => 9 | 2 => 2 | 4 => 4 | 171 => 192 | 0 => 0 | 53 => 156 | 37 => 97 | 5 => 5 | 173 => 194 | 212 => 219 | 51 => 154 | 20 => 20 | 213 => 220 | 46 => 99 | 232 => 400 | 233 => 401 | n => n,fun | 17 => 3 | 18 => 6 | 19 => 7 | n => n⟩
theorem Tryz.laysM171 : Go.Proofs.LaysM.n171 Tryz.prog Tryz.laysM171_ren := {
 mixed := by kernel_rfl
 f129 := Tryz.func115.trans (congrArg some (by kernel_rfl))
 f171 := Tryz.func45.trans (congrArg some (by kernel_rfl))
 f243 := Tryz.func88.trans (congrArg some (by kernel_rfl))
 f246 := Tryz.func117.trans (congrArg some (by kernel_rfl))
 f283 := Tryz.func149.trans (congrArg some (by kernel_rfl))
 f284 := Tryz.func150.trans (congrArg some (by kernel_rfl))
 f285 := Tryz.func151.trans (congrArg some (by kernel_rfl))
 f286 := Tryz.func152.trans (congrArg some (by kernel_rfl))
 f317 := Tryz.func179.trans (congrArg some (by kernel_rfl))
 f318 := Tryz.func180.trans (congrArg some (by kernel_rfl))
 f319 := Tryz.func181.trans (congrArg some (by kernel_rfl))
 f320 := Tryz.func182.trans (congrArg some (by kernel_rfl))
 f337 := Tryz.func215.trans (congrArg some (by kernel_rfl))
 f338 := Tryz.func216.trans (congrArg some (by kernel_rfl))
 t0 := Tryz.underlying0
 a0 := Tryz.isAgg0
 z0 := Tryz.sizeOf0
 v0 := Tryz.zeroValue0
 t2 := Tryz.underlying2
 a2 := Tryz.isAgg2
 z2 := Tryz.sizeOf2
 v2 := Tryz.zeroValue2
 t3 := Tryz.underlying3
 a3 := Tryz.isAgg3
 z3 := Tryz.sizeOf3
 v3 := Tryz.zeroValue3
 t4 := Tryz.underlying4
 a4 := Tryz.isAgg4
 z4 := Tryz.sizeOf4
 v4 := Tryz.zeroValue4
 t5 := Tryz.underlying5
 a5 := Tryz.isAgg5
 z5 := Tryz.sizeOf5
 v5 := Tryz.zeroValue5
 t9 := Tryz.underlying9
 a9 := Tryz.isAgg9
 z9 := Tryz.sizeOf9
 v9 := Tryz.zeroValue9
 t20 := Tryz.underlying20
 a20 := Tryz.isAgg20
 z20 := Tryz.sizeOf20
 v20 := Tryz.zeroValue20
 t37 := Tryz.underlying97
 a37 := Tryz.isAgg97
 z37 := Tryz.sizeOf97
 v37 := Tryz.zeroValue97
 t46 := Tryz.underlying99
 a46 := Tryz.isAgg99
 z46 := Tryz.sizeOf99
 v46 := Tryz.zeroValue99
 t51 := Tryz.underlying154
 a51 := Tryz.isAgg154
 z51 := Tryz.sizeOf154
 v51 := Tryz.zeroValue154
 t53 := Tryz.underlying156
 a53 := Tryz.isAgg156
 z53 := Tryz.sizeOf156
 v53 := Tryz.zeroValue156
 t171 := Tryz.underlying192
 a171 := Tryz.isAgg192
 z171 := Tryz.sizeOf192
 v171 := Tryz.zeroValue192
 t173 := Tryz.underlying194
 a173 := Tryz.isAgg194
 z173 := Tryz.sizeOf194
 v173 := Tryz.zeroValue194
 t212 := Tryz.underlying219
 a212 := Tryz.isAgg219
 z212 := Tryz.sizeOf219
 v212 := Tryz.zeroValue219
 t213 := Tryz.underlying220
 a213 := Tryz.isAgg220
 z213 := Tryz.sizeOf220
 t232 := Tryz.underlying400
 a232 := Tryz.isAgg400
 z232 := Tryz.sizeOf400
 v232 := Tryz.zeroValue400
 t233 := Tryz.underlying401
 a233 := Tryz.isAgg401
 z233 := Tryz.sizeOf401
 v233 := Tryz.zeroValue401
 g17 := by kernel_rfl
 g18 := by kernel_rfl
 g19 := by kernel_rfl
 i0 := by kernel_rfl
 i2 := by kernel_rfl
 i3 := by kernel_rfl
 i4 := by kernel_rfl
 i5 := by kernel_rfl
 i9 := by kernel_rfl
 i20 := by kernel_rfl
 i37 := by kernel_rfl
 i46 := by kernel_rfl
 i51 := by kernel_rfl
 i53 := by kernel_rfl
 i171 := by kernel_rfl
 i173 := by kernel_rfl
 i212 := by kernel_rfl
 i232 := by kernel_rfl
 i233 := by kernel_rfl
 m17 := by kernel_rfl
 m18 := by kernel_rfl
 m19 := by kernel_rfl }
open Go.RowKit Go.Sort Go.Lib in
theorem Tryz.strconv_Itoa (n : Int) (h0 : -9223372036854775808 ≤ n) (h1 : n ≤ 9223372036854775807) (w : World) (htab : Lib.TabIs Tryz.prog w "internal/strconv.uint64pow10" .u64 Lib.pow10Tab) :
  Calls Tryz.prog 45 #[.int .i64 n] w fun e w' => e = .returned (.string ⟨(Lib.itoa n).toArray⟩) ∧ ∃ k os,w' = grow (w.drewN k) os := Any.strconv_Itoa Tryz.laysM171 n h0 h1 w htab
def Tryz.laysM316_ren : Go.Shelf.Ren := ⟨fun | 316 => 91 | n => n,fun | 9 => 9 | 3 => 3 | 4 => 4 | 37 => 97 | 0 => 0 | 127 => 158 | 5 => 5 | n => n,fun | n => n⟩
theorem Tryz.laysM316 : Go.Proofs.LaysM.n316 Tryz.prog Tryz.laysM316_ren := {
 mixed := by kernel_rfl
 f316 := Tryz.func91.trans (congrArg some (by kernel_rfl))
 t0 := Tryz.underlying0
 a0 := Tryz.isAgg0
 z0 := Tryz.sizeOf0
 v0 := Tryz.zeroValue0
 t3 := Tryz.underlying3
 a3 := Tryz.isAgg3
 z3 := Tryz.sizeOf3
 v3 := Tryz.zeroValue3
 t4 := Tryz.underlying4
 a4 := Tryz.isAgg4
 z4 := Tryz.sizeOf4
 v4 := Tryz.zeroValue4
 t9 := Tryz.underlying9
 a9 := Tryz.isAgg9
 z9 := Tryz.sizeOf9
 v9 := Tryz.zeroValue9
 t37 := Tryz.underlying97
 a37 := Tryz.isAgg97
 z37 := Tryz.sizeOf97
 v37 := Tryz.zeroValue97
 t127 := Tryz.underlying158
 a127 := Tryz.isAgg158
 z127 := Tryz.sizeOf158
 v127 := Tryz.zeroValue158
 t5 := Tryz.underlying5
 a5 := Tryz.isAgg5
 z5 := Tryz.sizeOf5
 v5 := Tryz.zeroValue5
 i0 := by kernel_rfl
 i3 := by kernel_rfl
 i4 := by kernel_rfl
 i5 := by kernel_rfl
 i9 := by kernel_rfl
 i37 := by kernel_rfl
 i127 := by kernel_rfl }
open Go.RowKit in
theorem Tryz.stringslite_Clone (s : ByteArray) (w : World) (hlim : s.size ≤ 281474976710656) :
  Calls Tryz.prog 91 #[.string s] w fun e w' => e = .returned (.string s) ∧ Below w.heap.size w w' := Any.stringslite_Clone Tryz.laysM316 s w hlim
def Tryz.laysC172_ren : Go.Shelf.Ren := ⟨fun | 172 => 66 | 244 => 99 | 245 => 100 | 247 => 125 | 279 => 126 | 280 => 127 | 281 => 128 | 282 => 129 | 287 => 160 | 316 => 91 | 171 => 45 | 205 => 161 | 321 => 185 | 322 => 186 | 243 => 88 | 246 => 117 | 283 => 149 | 284 => 150 | 285 => 151 | 286 => 152 | 129 => 115 | 317 => 179 | 318 => 180 | 319 => 181 | 320 => 182 | 337 => 215 | 338 => 216 | n => n,fun | 9 => 9 | 3 => 3 | 75 => 102 | 76 => 103 | 4 => 4 | 5 => 5 | 167 => 161 | 37 => 97 | 0 => 0 | 85 => 162 | 2 => 2 | 168 => 164 | 53 => 156 | 175 => 201 | 46 => 99 | 210 => 204 | 127 => 158 | 145 => 227 | 143 => 225 | 21 => 21 | 171 => 192 | 173 => 194 | 212 => 219 | 51 => 154 | 20 => 20 | 213 => 220 | 232 => 400 | 233 => 401 | 80 => 283 | n => n,fun | 15 => 1 | 16 => 2 | 17 => 3 | 18 => 6 | 19 => 7 | n => n⟩
theorem Tryz.laysC172 : Go.Proofs.LaysC.n172 Tryz.prog Tryz.laysC172_ren := {
 mixed := by kernel_rfl
 f129 := Tryz.func115.trans (congrArg some (by kernel_rfl))
 f171 := Tryz.func45.trans (congrArg some (by kernel_rfl))
 f172 := Tryz.func66.trans (congrArg some (by kernel_rfl))
 f205 := Tryz.func161.trans (congrArg some (by kernel_rfl))
 f243 := Tryz.func88.trans (congrArg some (by kernel_rfl))
 f244 := Tryz.func99.trans (congrArg some (by kernel_rfl))
 f245 := Tryz.func100.trans (congrArg some (by kernel_rfl))
 f246 := Tryz.func117.trans (congrArg some (by kernel_rfl))
 f247 := Tryz.func125.trans (congrArg some (by kernel_rfl))
 f279 := Tryz.func126.trans (congrArg some (by kernel_rfl))
 f280 := Tryz.func127.trans (congrArg some (by kernel_rfl))
 f281 := Tryz.func128.trans (congrArg some (by kernel_rfl))
 f282 := Tryz.func129.trans (congrArg some (by kernel_rfl))
 f283 := Tryz.func149.trans (congrArg some (by kernel_rfl))
 f284 := Tryz.func150.trans (congrArg some (by kernel_rfl))
 f285 := Tryz.func151.trans (congrArg some (by kernel_rfl))
 f286 := Tryz.func152.trans (congrArg some (by kernel_rfl))
 f287 := Tryz.func160.trans (congrArg some (by kernel_rfl))
 f316 := Tryz.func91.trans (congrArg some (by kernel_rfl))
 f317 := Tryz.func179.trans (congrArg some (by kernel_rfl))
 f318 := Tryz.func180.trans (congrArg some (by kernel_rfl))
 f319 := Tryz.func181.trans (congrArg some (by kernel_rfl))
 f320 := Tryz.func182.trans (congrArg some (by kernel_rfl))
 f321 := Tryz.func185.trans (congrArg some (by kernel_rfl))
 f322 := Tryz.func186.trans (congrArg some (by kernel_rfl))
 f337 := Tryz.func215.trans (congrArg some (by kernel_rfl))
 f338 := Tryz.func216.trans (congrArg some (by kernel_rfl))
 t0 := Tryz.underlying0
 a0 := Tryz.isAgg0
 z0 := Tryz.sizeOf0
 v0 := Tryz.zeroValue0
 t2 := Tryz.underlying2
 a2 := Tryz.isAgg2
 z2 := Tryz.sizeOf2
 v2 := Tryz.zeroValue2
 t3 := Tryz.underlying3
 a3 := Tryz.isAgg3
 z3 := Tryz.sizeOf3
 v3 := Tryz.zeroValue3
 t4 := Tryz.underlying4
 a4 := Tryz.isAgg4
 z4 := Tryz.sizeOf4
 v4 := Tryz.zeroValue4
 t5 := Tryz.underlying5
 a5 := Tryz.isAgg5
 z5 := Tryz.sizeOf5
 v5 := Tryz.zeroValue5
 t9 := Tryz.underlying9
 a9 := Tryz.isAgg9
 z9 := Tryz.sizeOf9
 v9 := Tryz.zeroValue9
 t20 := Tryz.underlying20
 a20 := Tryz.isAgg20
 z20 := Tryz.sizeOf20
 v20 := Tryz.zeroValue20
 t21 := Tryz.underlying21
 a21 := Tryz.isAgg21
 z21 := Tryz.sizeOf21
 v21 := Tryz.zeroValue21
 t37 := Tryz.underlying97
 a37 := Tryz.isAgg97
 z37 := Tryz.sizeOf97
 v37 := Tryz.zeroValue97
 t46 := Tryz.underlying99
 a46 := Tryz.isAgg99
 z46 := Tryz.sizeOf99
 v46 := Tryz.zeroValue99
 t51 := Tryz.underlying154
 a51 := Tryz.isAgg154
 z51 := Tryz.sizeOf154
 v51 := Tryz.zeroValue154
 t53 := Tryz.underlying156
 a53 := Tryz.isAgg156
 z53 := Tryz.sizeOf156
 v53 := Tryz.zeroValue156
 t75 := Tryz.underlying102
 a75 := Tryz.isAgg102
 z75 := Tryz.sizeOf102
 v75 := Tryz.zeroValue102
 t76 := Tryz.underlying103
 a76 := Tryz.isAgg103
 z76 := Tryz.sizeOf103
 v76 := Tryz.zeroValue103
 t85 := Tryz.underlying162
 a85 := Tryz.isAgg162
 z85 := Tryz.sizeOf162
 v85 := Tryz.zeroValue162
 t127 := Tryz.underlying158
 a127 := Tryz.isAgg158
 z127 := Tryz.sizeOf158
 v127 := Tryz.zeroValue158
 t143 := Tryz.underlying225
 a143 := Tryz.isAgg225
 z143 := Tryz.sizeOf225
 v143 := Tryz.zeroValue225
 t145 := Tryz.underlying227
 a145 := Tryz.isAgg227
 z145 := Tryz.sizeOf227
 v145 := Tryz.zeroValue227
 t167 := Tryz.underlying161
 a167 := Tryz.isAgg161
 z167 := Tryz.sizeOf161
 v167 := Tryz.zeroValue161
 t168 := Tryz.underlying164
 a168 := Tryz.isAgg164
 z168 := Tryz.sizeOf164
 v168 := Tryz.zeroValue164
 t171 := Tryz.underlying192
 a171 := Tryz.isAgg192
 z171 := Tryz.sizeOf192
 v171 := Tryz.zeroValue192
 t173 := Tryz.underlying194
 a173 := Tryz.isAgg194
 z173 := Tryz.sizeOf194
 v173 := Tryz.zeroValue194
 t175 := Tryz.underlying201
 a175 := Tryz.isAgg201
 z175 := Tryz.sizeOf201
 v175 := Tryz.zeroValue201
 t210 := Tryz.underlying204
 a210 := Tryz.isAgg204
 z210 := Tryz.sizeOf204
 v210 := Tryz.zeroValue204
 t212 := Tryz.underlying219
 a212 := Tryz.isAgg219
 z212 := Tryz.sizeOf219
 v212 := Tryz.zeroValue219
 t213 := Tryz.underlying220
 a213 := Tryz.isAgg220
 z213 := Tryz.sizeOf220
 t232 := Tryz.underlying400
 a232 := Tryz.isAgg400
 z232 := Tryz.sizeOf400
 v232 := Tryz.zeroValue400
 t233 := Tryz.underlying401
 a233 := Tryz.isAgg401
 z233 := Tryz.sizeOf401
 v233 := Tryz.zeroValue401
 g15 := by kernel_rfl
 g16 := by kernel_rfl
 g17 := by kernel_rfl
 g18 := by kernel_rfl
 g19 := by kernel_rfl
 t80 := Tryz.underlying283
 a80 := Tryz.isAgg283
 z80 := Tryz.sizeOf283
 v80 := Tryz.zeroValue283
 i0 := by kernel_rfl
 i2 := by kernel_rfl
 i3 := by kernel_rfl
 i4 := by kernel_rfl
 i5 := by kernel_rfl
 i9 := by kernel_rfl
 i20 := by kernel_rfl
 i21 := by kernel_rfl
 i37 := by kernel_rfl
 i46 := by kernel_rfl
 i51 := by kernel_rfl
 i53 := by kernel_rfl
 i75 := by kernel_rfl
 i76 := by kernel_rfl
 i80 := by kernel_rfl
 i85 := by kernel_rfl
 i127 := by kernel_rfl
 i143 := by kernel_rfl
 i145 := by kernel_rfl
 i167 := by kernel_rfl
 i168 := by kernel_rfl
 i171 := by kernel_rfl
 i173 := by kernel_rfl
 i175 := by kernel_rfl
 i210 := by kernel_rfl
 i212 := by kernel_rfl
 i232 := by kernel_rfl
 i233 := by kernel_rfl
 m15 := by kernel_rfl
 m16 := by kernel_rfl
 m17 := by kernel_rfl
 m18 := by kernel_rfl
 m19 := by kernel_rfl
 c0 := by kernel_rfl
 c2 := by kernel_rfl
 c3 := by kernel_rfl
 c4 := by kernel_rfl
 c5 := by kernel_rfl
 c9 := by kernel_rfl
 c20 := by kernel_rfl
 c21 := by kernel_rfl
 c37 := by kernel_rfl
 c46 := by kernel_rfl
 c51 := by kernel_rfl
 c53 := by kernel_rfl
 c75 := by kernel_rfl
 c76 := by kernel_rfl
 c80 := by kernel_rfl
 c85 := by kernel_rfl
 c127 := by kernel_rfl
 c143 := by kernel_rfl
 c145 := by kernel_rfl
 c167 := by kernel_rfl
 c168 := by kernel_rfl
 c171 := by kernel_rfl
 c173 := by kernel_rfl
 c175 := by kernel_rfl
 c210 := by kernel_rfl
 c212 := by kernel_rfl
 c213 := by kernel_rfl
 c232 := by kernel_rfl
 c233 := by kernel_rfl }
open Go.RowKit in
theorem Tryz.strconv_Atoi_ok (s : ByteArray) (hmax : s.size ≤ 9223372036854775806) (v : Int) (h : Lib.atoiAll s.data.toList = .ok v) (w : World) :
  Calls Tryz.prog 66 #[.string s] w fun e w' => e = .returned (.tuple #[.int .i64 v,.nilIface]) ∧ (w' = w ∨ ∃ t,w' = Lib.bytesWorld w 5 t) := Any.strconv_Atoi_ok Tryz.laysC172 s hmax v h w
open Go.RowKit in
theorem Tryz.strconv_Atoi_syntax (s : ByteArray) (hlim : s.size ≤ 281474976710656) (h : Lib.atoiAll s.data.toList = Lib.atoiAll []) (ev : Value) (w : World) (hv : w.cell? ⟨1,0,none⟩ = some ev) (hev : ev = .nilIface ∨ ∃ te pe,ev = .iface te pe) :
  Calls Tryz.prog 66 #[.string s] w fun e w' => ∃ N,e = .returned (.tuple #[.int .i64 (0),.iface 164 (.pointer (some ⟨N,0,none⟩))]) ∧ w.heap.size ≤ N ∧ w'.heap[N]? = some (.cells #[.string ⟨#[65,116,111,105]⟩,.string s,ev] 204 (0,0)) ∧ Below w.heap.size w w' := Any.strconv_Atoi_syntax Tryz.laysC172 s hlim h ev w hv hev
open Go.RowKit in
theorem Tryz.strconv_Atoi_range (s : ByteArray) (hlim : s.size ≤ 281474976710656) (h : Lib.atoiAll s.data.toList = .range) (ev : Value) (w : World) (hv : w.cell? ⟨2,0,none⟩ = some ev) (hev : ev = .nilIface ∨ ∃ te pe,ev = .iface te pe) :
  Calls Tryz.prog 66 #[.string s] w fun e w' => ∃ N,e = .returned (.tuple #[.int .i64 (Lib.atoiSat s.data.toList),.iface 164 (.pointer (some ⟨N,0,none⟩))]) ∧ w.heap.size ≤ N ∧ w'.heap[N]? = some (.cells #[.string ⟨#[65,116,111,105]⟩,.string s,ev] 204 (0,0)) ∧ Below w.heap.size w w' := Any.strconv_Atoi_range Tryz.laysC172 s hlim h ev w hv hev
def Tryz.lays144_ren : Go.Shelf.Ren := ⟨fun | 144 => 105 | 143 => 122 | 219 => 119 | 217 => 95 | 225 => 153 | 224 => 154 | 267 => 155 | 266 => 123 | 314 => 183 | n => n,fun | 9 => 9 | 4 => 4 | 3 => 3 | 5 => 5 | 46 => 99 | 146 => 222 | 51 => 154 | n => n,fun | 1 => 0 | n => n⟩
theorem Tryz.lays144 : Go.Proofs.Lays.n144 Tryz.prog Tryz.lays144_ren := {
 mixed := by kernel_rfl
 f143 := Tryz.func122.trans (congrArg some (by kernel_rfl))
 f144 := Tryz.func105.trans (congrArg some (by kernel_rfl))
 f217 := Tryz.func95.trans (congrArg some (by kernel_rfl))
 f219 := Tryz.func119.trans (congrArg some (by kernel_rfl))
 f224 := Tryz.func154.trans (congrArg some (by kernel_rfl))
 f225 := Tryz.func153.trans (congrArg some (by kernel_rfl))
 f266 := Tryz.func123.trans (congrArg some (by kernel_rfl))
 f267 := Tryz.func155.trans (congrArg some (by kernel_rfl))
 f314 := Tryz.func183.trans (congrArg some (by kernel_rfl))
 t3 := Tryz.underlying3
 a3 := Tryz.isAgg3
 z3 := Tryz.sizeOf3
 v3 := Tryz.zeroValue3
 t4 := Tryz.underlying4
 a4 := Tryz.isAgg4
 z4 := Tryz.sizeOf4
 v4 := Tryz.zeroValue4
 t5 := Tryz.underlying5
 a5 := Tryz.isAgg5
 z5 := Tryz.sizeOf5
 v5 := Tryz.zeroValue5
 t9 := Tryz.underlying9
 a9 := Tryz.isAgg9
 z9 := Tryz.sizeOf9
 v9 := Tryz.zeroValue9
 t46 := Tryz.underlying99
 a46 := Tryz.isAgg99
 z46 := Tryz.sizeOf99
 v46 := Tryz.zeroValue99
 t51 := Tryz.underlying154
 a51 := Tryz.isAgg154
 z51 := Tryz.sizeOf154
 v51 := Tryz.zeroValue154
 t146 := Tryz.underlying222
 a146 := Tryz.isAgg222
 z146 := Tryz.sizeOf222
 v146 := Tryz.zeroValue222
 g1 := by kernel_rfl }
open Go.RowKit Go.Lib in
theorem Tryz.strings_Contains (s sub : ByteArray) (m : Int) (w : World) (hs : s.size < 4294967281) (hm : w.cell? ⟨0,0,none⟩ = some (.int .i64 m)) :
  Calls Tryz.prog 105 #[.string s,.string sub] w fun e w' => e = .returned (.bool (Lib.contains s.data.toList sub.data.toList)) ∧ w' = w := Any.strings_Contains Tryz.lays144 s sub m w hs hm
def Tryz.lays145_ren : Go.Shelf.Ren := ⟨fun | 145 => 59 | 220 => 92 | 219 => 119 | 217 => 95 | 225 => 153 | 224 => 154 | 267 => 155 | 266 => 123 | 314 => 183 | n => n,fun | 9 => 9 | 4 => 4 | 59 => 93 | 3 => 3 | 5 => 5 | 46 => 99 | 146 => 222 | 51 => 154 | n => n,fun | 1 => 0 | n => n⟩
theorem Tryz.lays145 : Go.Proofs.Lays.n145 Tryz.prog Tryz.lays145_ren := {
 mixed := by kernel_rfl
 f145 := Tryz.func59.trans (congrArg some (by kernel_rfl))
 f217 := Tryz.func95.trans (congrArg some (by kernel_rfl))
 f219 := Tryz.func119.trans (congrArg some (by kernel_rfl))
 f220 := Tryz.func92.trans (congrArg some (by kernel_rfl))
 f224 := Tryz.func154.trans (congrArg some (by kernel_rfl))
 f225 := Tryz.func153.trans (congrArg some (by kernel_rfl))
 f266 := Tryz.func123.trans (congrArg some (by kernel_rfl))
 f267 := Tryz.func155.trans (congrArg some (by kernel_rfl))
 f314 := Tryz.func183.trans (congrArg some (by kernel_rfl))
 t3 := Tryz.underlying3
 a3 := Tryz.isAgg3
 z3 := Tryz.sizeOf3
 v3 := Tryz.zeroValue3
 t4 := Tryz.underlying4
 a4 := Tryz.isAgg4
 z4 := Tryz.sizeOf4
 v4 := Tryz.zeroValue4
 t5 := Tryz.underlying5
 a5 := Tryz.isAgg5
 z5 := Tryz.sizeOf5
 v5 := Tryz.zeroValue5
 t9 := Tryz.underlying9
 a9 := Tryz.isAgg9
 z9 := Tryz.sizeOf9
 v9 := Tryz.zeroValue9
 t46 := Tryz.underlying99
 a46 := Tryz.isAgg99
 z46 := Tryz.sizeOf99
 v46 := Tryz.zeroValue99
 t51 := Tryz.underlying154
 a51 := Tryz.isAgg154
 z51 := Tryz.sizeOf154
 v51 := Tryz.zeroValue154
 t59 := Tryz.underlying93
 a59 := Tryz.isAgg93
 z59 := Tryz.sizeOf93
 v59 := Tryz.zeroValue93
 t146 := Tryz.underlying222
 a146 := Tryz.isAgg222
 z146 := Tryz.sizeOf222
 v146 := Tryz.zeroValue222
 g1 := by kernel_rfl }
open Go.RowKit Go.Lib in
theorem Tryz.strings_Cut (s sep : ByteArray) (m : Int) (w : World) (hs : s.size < 4294967281) (hm : w.cell? ⟨0,0,none⟩ = some (.int .i64 m)) :
  Calls Tryz.prog 59 #[.string s,.string sep] w fun e w' => e = .returned (.tuple #[.string ⟨(Lib.cut s.data.toList sep.data.toList).1.toArray⟩,.string ⟨(Lib.cut s.data.toList sep.data.toList).2.1.toArray⟩,.bool (Lib.cut s.data.toList sep.data.toList).2.2]) ∧ ∃ n,w' = w.drewN n := Any.strings_Cut Tryz.lays145 s sep m w hs hm
def Tryz.lays138_ren : Go.Shelf.Ren := ⟨fun | 138 => 121 | 195 => 156 | 218 => 158 | 143 => 122 | 219 => 119 | 217 => 95 | 225 => 153 | 224 => 154 | 267 => 155 | 266 => 123 | 314 => 183 | n => n,fun | 9 => 9 | 3 => 3 | 4 => 4 | 5 => 5 | 0 => 0 | 46 => 99 | 146 => 222 | 51 => 154 | n => n,fun | 1 => 0 | n => n⟩
theorem Tryz.lays138 : Go.Proofs.Lays.n138 Tryz.prog Tryz.lays138_ren := {
 mixed := by kernel_rfl
 f138 := Tryz.func121.trans (congrArg some (by kernel_rfl))
 f143 := Tryz.func122.trans (congrArg some (by kernel_rfl))
 f195 := Tryz.func156.trans (congrArg some (by kernel_rfl))
 f217 := Tryz.func95.trans (congrArg some (by kernel_rfl))
 f218 := Tryz.func158.trans (congrArg some (by kernel_rfl))
 f219 := Tryz.func119.trans (congrArg some (by kernel_rfl))
 f224 := Tryz.func154.trans (congrArg some (by kernel_rfl))
 f225 := Tryz.func153.trans (congrArg some (by kernel_rfl))
 f266 := Tryz.func123.trans (congrArg some (by kernel_rfl))
 f267 := Tryz.func155.trans (congrArg some (by kernel_rfl))
 f314 := Tryz.func183.trans (congrArg some (by kernel_rfl))
 t0 := Tryz.underlying0
 a0 := Tryz.isAgg0
 z0 := Tryz.sizeOf0
 v0 := Tryz.zeroValue0
 t3 := Tryz.underlying3
 a3 := Tryz.isAgg3
 z3 := Tryz.sizeOf3
 v3 := Tryz.zeroValue3
 t4 := Tryz.underlying4
 a4 := Tryz.isAgg4
 z4 := Tryz.sizeOf4
 v4 := Tryz.zeroValue4
 t5 := Tryz.underlying5
 a5 := Tryz.isAgg5
 z5 := Tryz.sizeOf5
 v5 := Tryz.zeroValue5
 t9 := Tryz.underlying9
 a9 := Tryz.isAgg9
 z9 := Tryz.sizeOf9
 v9 := Tryz.zeroValue9
 t46 := Tryz.underlying99
 a46 := Tryz.isAgg99
 z46 := Tryz.sizeOf99
 v46 := Tryz.zeroValue99
 t51 := Tryz.underlying154
 a51 := Tryz.isAgg154
 z51 := Tryz.sizeOf154
 v51 := Tryz.zeroValue154
 t146 := Tryz.underlying222
 a146 := Tryz.isAgg222
 z146 := Tryz.sizeOf222
 v146 := Tryz.zeroValue222
 g1 := by kernel_rfl }
open Go.RowKit Go.Lib in
theorem Tryz.strings_Count_one (s : ByteArray) (c : UInt8) (w : World) :
  Calls Tryz.prog 121 #[.string s,.string ⟨#[c]⟩] w fun e w' => e = .returned (.int .i64 (Lib.countByte s.data.toList c)) ∧ w' = w := Any.strings_Count_one Tryz.lays138 s c w
def Tryz.lays206_ren : Go.Shelf.Ren := ⟨fun | 206 => 118 | n => n,fun | 9 => 9 | 4 => 4 | 3 => 3 | n => n,fun | n => n⟩
theorem Tryz.lays206 : Go.Proofs.Lays.n206 Tryz.prog Tryz.lays206_ren := {
 mixed := by kernel_rfl
 f206 := Tryz.func118.trans (congrArg some (by kernel_rfl))
 t3 := Tryz.underlying3
 a3 := Tryz.isAgg3
 z3 := Tryz.sizeOf3
 v3 := Tryz.zeroValue3
 t4 := Tryz.underlying4
 a4 := Tryz.isAgg4
 z4 := Tryz.sizeOf4
 v4 := Tryz.zeroValue4
 t9 := Tryz.underlying9
 a9 := Tryz.isAgg9
 z9 := Tryz.sizeOf9
 v9 := Tryz.zeroValue9 }
open Go.RowKit Go.Lib in
theorem Tryz.stringslite_HasPrefix (s p : ByteArray) (w : World) :
  Calls Tryz.prog 118 #[.string s,.string p] w fun e w' => e = .returned (.bool (Lib.hasPrefix s.data.toList p.data.toList)) ∧ w' = w := Any.stringslite_HasPrefix Tryz.lays206 s p w
def Tryz.lays146_ren : Go.Shelf.Ren := ⟨fun | 146 => 60 | 221 => 93 | 268 => 120 | 138 => 121 | 143 => 122 | 195 => 156 | 197 => 157 | 218 => 158 | 219 => 119 | 260 => 184 | 217 => 95 | 225 => 153 | 224 => 154 | 267 => 155 | 266 => 123 | 314 => 183 | n => n,fun | 9 => 9 | 31 => 71 | 3 => 3 | 4 => 4 | 0 => 0 | 105 => 198 | 21 => 21 | 5 => 5 | 46 => 99 | 119 => 290 | 139 => 293 | 138 => 292 | 146 => 222 | 51 => 154 | n => n,fun | 1 => 0 | 3 => 4 | 4 => 5 | n => n⟩
theorem Tryz.lays146 : Go.Proofs.Lays.n146 Tryz.prog Tryz.lays146_ren := {
 mixed := by kernel_rfl
 f138 := Tryz.func121.trans (congrArg some (by kernel_rfl))
 f143 := Tryz.func122.trans (congrArg some (by kernel_rfl))
 f146 := Tryz.func60.trans (congrArg some (by kernel_rfl))
 f195 := Tryz.func156.trans (congrArg some (by kernel_rfl))
 f197 := Tryz.func157.trans (congrArg some (by kernel_rfl))
 f217 := Tryz.func95.trans (congrArg some (by kernel_rfl))
 f218 := Tryz.func158.trans (congrArg some (by kernel_rfl))
 f219 := Tryz.func119.trans (congrArg some (by kernel_rfl))
 f221 := Tryz.func93.trans (congrArg some (by kernel_rfl))
 f224 := Tryz.func154.trans (congrArg some (by kernel_rfl))
 f225 := Tryz.func153.trans (congrArg some (by kernel_rfl))
 f260 := Tryz.func184.trans (congrArg some (by kernel_rfl))
 f266 := Tryz.func123.trans (congrArg some (by kernel_rfl))
 f267 := Tryz.func155.trans (congrArg some (by kernel_rfl))
 f268 := Tryz.func120.trans (congrArg some (by kernel_rfl))
 f314 := Tryz.func183.trans (congrArg some (by kernel_rfl))
 t0 := Tryz.underlying0
 a0 := Tryz.isAgg0
 z0 := Tryz.sizeOf0
 v0 := Tryz.zeroValue0
 t3 := Tryz.underlying3
 a3 := Tryz.isAgg3
 z3 := Tryz.sizeOf3
 v3 := Tryz.zeroValue3
 t4 := Tryz.underlying4
 a4 := Tryz.isAgg4
 z4 := Tryz.sizeOf4
 v4 := Tryz.zeroValue4
 t5 := Tryz.underlying5
 a5 := Tryz.isAgg5
 z5 := Tryz.sizeOf5
 v5 := Tryz.zeroValue5
 t9 := Tryz.underlying9
 a9 := Tryz.isAgg9
 z9 := Tryz.sizeOf9
 v9 := Tryz.zeroValue9
 t21 := Tryz.underlying21
 a21 := Tryz.isAgg21
 z21 := Tryz.sizeOf21
 v21 := Tryz.zeroValue21
 t31 := Tryz.underlying71
 a31 := Tryz.isAgg71
 z31 := Tryz.sizeOf71
 v31 := Tryz.zeroValue71
 t46 := Tryz.underlying99
 a46 := Tryz.isAgg99
 z46 := Tryz.sizeOf99
 v46 := Tryz.zeroValue99
 t51 := Tryz.underlying154
 a51 := Tryz.isAgg154
 z51 := Tryz.sizeOf154
 v51 := Tryz.zeroValue154
 t105 := Tryz.underlying198
 a105 := Tryz.isAgg198
 z105 := Tryz.sizeOf198
 v105 := Tryz.zeroValue198
 t119 := Tryz.underlying290
 a119 := Tryz.isAgg290
 z119 := Tryz.sizeOf290
 t138 := Tryz.underlying292
 a138 := Tryz.isAgg292
 z138 := Tryz.sizeOf292
 v138 := Tryz.zeroValue292
 t139 := Tryz.underlying293
 a139 := Tryz.isAgg293
 z139 := Tryz.sizeOf293
 v139 := Tryz.zeroValue293
 t146 := Tryz.underlying222
 a146 := Tryz.isAgg222
 z146 := Tryz.sizeOf222
 v146 := Tryz.zeroValue222
 g1 := by kernel_rfl
 g3 := by kernel_rfl
 g4 := by kernel_rfl }
open Go.RowKit Go.Lib in
theorem Tryz.strings_Split (s sep : ByteArray) (m : Int) (w : World) (hs : s.size < 4294967281) (hm : w.cell? ⟨0,0,none⟩ = some (.int .i64 m)) (h1 : 1 ≤ sep.size) :
  Calls Tryz.prog 60 #[.string s,.string sep] w fun e w' =>
   e = .returned (.slice (some ⟨w.heap.size,0,none⟩) (Lib.countB s sep + 1) (Lib.countB s sep + 1)) ∧ w' = w.alloc (.cells ((Lib.splitB sep 0 (Lib.countB s sep) s).map Value.string).toArray 9) := Any.strings_Split Tryz.lays146 (by kernel_rfl) s sep m w hs hm h1
def Tryz.pdqFile_ren : Go.Shelf.Ren := ⟨fun | 14 => 85 | 20 => 106 | 21 => 107 | 22 => 108 | 23 => 109 | 24 => 110 | 25 => 111 | 26 => 112 | 27 => 113 | 46 => 143 | 47 => 144 | 48 => 145 | 49 => 146 | 50 => 147 | 15 => 86 | 57 => 178 | 28 => 114 | 29 => 115 | n => n,fun | 24 => 49 | 22 => 22 | 3 => 3 | 25 => 80 | 4 => 4 | 0 => 0 | 46 => 147 | 45 => 146 | 50 => 151 | 66 => 186 | 39 => 99 | 55 => 156 | 70 => 190 | 76 => 215 | 77 => 216 | 53 => 154 | 5 => 5 | 9 => 9 | n => n,fun | n => n⟩
theorem Tryz.pdqFile : Go.Proofs.SlLaysF0.n14 Tryz.prog Tryz.pdqFile_ren := {
 mixed := by kernel_rfl
 f14 := ⟨Tryz.f85.name,by decide,Tryz.func85.trans (congrArg some (by kernel_rfl))⟩
 f15 := Tryz.func86.trans (congrArg some (by kernel_rfl))
 f20 := ⟨Tryz.f106.name,by decide,Tryz.func106.trans (congrArg some (by kernel_rfl))⟩
 f21 := ⟨Tryz.f107.name,by decide,Tryz.func107.trans (congrArg some (by kernel_rfl))⟩
 f22 := ⟨Tryz.f108.name,by decide,Tryz.func108.trans (congrArg some (by kernel_rfl))⟩
 f23 := ⟨Tryz.f109.name,by decide,Tryz.func109.trans (congrArg some (by kernel_rfl))⟩
 f24 := ⟨Tryz.f110.name,by decide,Tryz.func110.trans (congrArg some (by kernel_rfl))⟩
 f25 := ⟨Tryz.f111.name,by decide,Tryz.func111.trans (congrArg some (by kernel_rfl))⟩
 f26 := ⟨Tryz.f112.name,by decide,Tryz.func112.trans (congrArg some (by kernel_rfl))⟩
 f27 := ⟨Tryz.f113.name,by decide,Tryz.func113.trans (congrArg some (by kernel_rfl))⟩
 f28 := Tryz.func114.trans (congrArg some (by kernel_rfl))
 f29 := Tryz.func115.trans (congrArg some (by kernel_rfl))
 f46 := ⟨Tryz.f143.name,by decide,Tryz.func143.trans (congrArg some (by kernel_rfl))⟩
 f47 := Tryz.func144.trans (congrArg some (by kernel_rfl))
 f48 := Tryz.func145.trans (congrArg some (by kernel_rfl))
 f49 := ⟨Tryz.f146.name,by decide,Tryz.func146.trans (congrArg some (by kernel_rfl))⟩
 f50 := ⟨Tryz.f147.name,by decide,Tryz.func147.trans (congrArg some (by kernel_rfl))⟩
 f57 := ⟨Tryz.f178.name,by decide,Tryz.func178.trans (congrArg some (by kernel_rfl))⟩
 t0 := Tryz.underlying0
 a0 := Tryz.isAgg0
 z0 := Tryz.sizeOf0
 v0 := Tryz.zeroValue0
 t3 := Tryz.underlying3
 a3 := Tryz.isAgg3
 z3 := Tryz.sizeOf3
 v3 := Tryz.zeroValue3
 t4 := Tryz.underlying4
 a4 := Tryz.isAgg4
 z4 := Tryz.sizeOf4
 v4 := Tryz.zeroValue4
 t5 := Tryz.underlying5
 a5 := Tryz.isAgg5
 z5 := Tryz.sizeOf5
 v5 := Tryz.zeroValue5
 t9 := Tryz.underlying9
 a9 := Tryz.isAgg9
 z9 := Tryz.sizeOf9
 v9 := Tryz.zeroValue9
 t22 := Tryz.underlying22
 a22 := Tryz.isAgg22
 z22 := Tryz.sizeOf22
 v22 := Tryz.zeroValue22
 t25 := Tryz.underlying80
 a25 := Tryz.isAgg80
 z25 := Tryz.sizeOf80
 v25 := Tryz.zeroValue80
 t39 := Tryz.underlying99
 a39 := Tryz.isAgg99
 z39 := Tryz.sizeOf99
 v39 := Tryz.zeroValue99
 t45 := Tryz.underlying146
 a45 := Tryz.isAgg146
 z45 := Tryz.sizeOf146
 v45 := Tryz.zeroValue146
 t46 := Tryz.underlying147
 a46 := Tryz.isAgg147
 z46 := Tryz.sizeOf147
 v46 := Tryz.zeroValue147
 t50 := Tryz.underlying151
 a50 := Tryz.isAgg151
 z50 := Tryz.sizeOf151
 v50 := Tryz.zeroValue151
 t53 := Tryz.underlying154
 a53 := Tryz.isAgg154
 z53 := Tryz.sizeOf154
 v53 := Tryz.zeroValue154
 t55 := Tryz.underlying156
 a55 := Tryz.isAgg156
 z55 := Tryz.sizeOf156
 v55 := Tryz.zeroValue156
 t66 := Tryz.underlying186
 a66 := Tryz.isAgg186
 z66 := Tryz.sizeOf186
 v66 := Tryz.zeroValue186
 t70 := Tryz.underlying190
 a70 := Tryz.isAgg190
 z70 := Tryz.sizeOf190
 v70 := Tryz.zeroValue190
 t76 := Tryz.underlying215
 a76 := Tryz.isAgg215
 z76 := Tryz.sizeOf215
 v76 := Tryz.zeroValue215
 t77 := Tryz.underlying216
 a77 := Tryz.isAgg216
 z77 := Tryz.sizeOf216
 v77 := Tryz.zeroValue216 }
def Tryz.grow175_ren : Go.Shelf.Ren := ⟨fun | 4 => 175 | n => n,fun | 22 => 71 | 25 => 9 | 3 => 3 | 4 => 4 | 9 => 9 | 20 => 20 | 0 => 0 | n => n,fun | n => n⟩
theorem Tryz.grow175 : Go.Proofs.Lays8.n4 Tryz.prog Tryz.grow175_ren := {
 mixed := by kernel_rfl
 f4 := ⟨Tryz.f175.name,by decide,Tryz.func175.trans (congrArg some (by kernel_rfl))⟩
 t0 := Tryz.underlying0
 a0 := Tryz.isAgg0
 z0 := Tryz.sizeOf0
 v0 := Tryz.zeroValue0
 t3 := Tryz.underlying3
 a3 := Tryz.isAgg3
 z3 := Tryz.sizeOf3
 v3 := Tryz.zeroValue3
 t4 := Tryz.underlying4
 a4 := Tryz.isAgg4
 z4 := Tryz.sizeOf4
 v4 := Tryz.zeroValue4
 t9 := Tryz.underlying9
 a9 := Tryz.isAgg9
 z9 := Tryz.sizeOf9
 v9 := Tryz.zeroValue9
 t20 := Tryz.underlying20
 a20 := Tryz.isAgg20
 z20 := Tryz.sizeOf20
 v20 := Tryz.zeroValue20
 t22 := Tryz.underlying71
 a22 := Tryz.isAgg71
 z22 := Tryz.sizeOf71
 v22 := Tryz.zeroValue71 }
end Go.Proofs
