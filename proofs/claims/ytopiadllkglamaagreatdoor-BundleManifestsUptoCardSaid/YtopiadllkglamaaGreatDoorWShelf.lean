/- DERIVED: THE SHELF's CONTRACTS AT THIS DUMP,IN PLAIN WORDS (tools/lay-plain.mjs out of 'YtopiadllkglamaaGreatDoorShelf.lean',which tools/lay-shelf.mjs wrote): THE SAME DECLARATIONS UNDER THE SAME NA -/
import Derived.Shelf.SlSortCmp.WholeK
import Derived.Ground.SlsfProg
import Derived.Shelf.Spec.SlicesGrow
import Derived.Ground.Names7Prog
import Derived.Ground.NamesProg
import Derived.Shelf.Strings.Builder1
import Derived.Shelf.Strings.Builder2
import Derived.Shelf.Small.Utf8
import Derived.Shelf.Small.Bits
import Derived.Shelf.Small.Strs
import Derived.Shelf.Utf8.RuneCount
import Derived.Shelf.Strconv.Atoi
import Derived.Shelf.Strconv.Itoa0
import Derived.Shelf.Strconv.Itoa1
import Derived.Shelf.LaysM
import Derived.Shelf.Strconv.Itoa2
import Derived.Shelf.Strconv.Itoa3
import Derived.Shelf.Strconv.AtoiErrFast
import Derived.Shelf.Strconv.ParseIntEmpty
import Derived.Shelf.Strconv.AtoiFail
import Derived.Shelf.Strconv.Clone
import Derived.Shelf.Strconv.SyntaxError
import Derived.Shelf.LaysC
import Derived.Shelf.Strconv.ToError
import Derived.Shelf.Strconv.Lower
import Derived.Shelf.Strconv.ParseUint10
import Derived.Shelf.Strconv.ParseUint10Empty
import Derived.Shelf.Strconv.ParseUint10Any
import Derived.Shelf.Strconv.ParseInt10
import Derived.Shelf.Strconv.AtoiLong
import Derived.Shelf.Strconv.AtoiInnerAll
import Derived.Shelf.Strconv.RangeError
import Derived.Shelf.Strconv.ToErrorRange
import Derived.Shelf.Strconv.AtoiAll
import Derived.Shelf.Strconv.ErrVarAll
import Derived.Shelf.Strings.Search1
import Derived.Shelf.Strings.Search2
import Derived.Shelf.Strings.Search3
import Derived.Shelf.Strings.Cut
import Derived.Shelf.Strings.Count
import Derived.Shelf.Strings.Shaped
import Derived.Shelf.Strings.Prefix
import Derived.Shelf.Strings.Split
import Derived.Shelf.Strings.SplitShaped
import Derived.Shelf.Unicode.Decode
import Derived.Shelf.Strings.Runes
import Derived.Shelf.Strings.RuneCount
import Derived.Shelf.Strings.AsciiSet
import Derived.Shelf.Strings.Explode
import Derived.Shelf.Unicode.DecodeSlow
import Derived.Shelf.Unicode.DecodeAny
import Derived.Shelf.Unicode.DecodeLast
import Derived.Ground.Names2Prog
import Derived.Shelf.Slices.Clone
import Derived.Shelf.Slices.CompactS
import Derived.Shelf.Slices.SearchI
import Derived.Shelf.Slices.Cells
import Derived.Ground.SlgnProg
import Derived.Shelf.SlicesE.Clone
import Derived.Test.YtopiadllkglamaaGreatDoorProg
namespace Go.Proofs
open Go.Shelf
def Tryz.lays125_ren : Go.Shelf.Ren := ⟨fun | 125 => 50 | 128 => 98 | 129 => 99 | n => n,fun | 46 => 87 | 3 => 3 | 51 => 135 | 53 => 137 | 4 => 4 | 5 => 5 | 9 => 9 | n => n,fun | n => n⟩
theorem Tryz.lays125 : Go.Proofs.Lays.n125 Tryz.prog Tryz.lays125_ren := {
 mixed := by kernel_rfl
 f125 := Tryz.func50.trans (congrArg some (by kernel_rfl))
 f128 := Tryz.func98.trans (congrArg some (by kernel_rfl))
 f129 := Tryz.func99.trans (congrArg some (by kernel_rfl))
 t3 := Tryz.underlying3
 a3 := Tryz.isAgg3
 z3 := Tryz.sizeOf3
 v3 := Tryz.zeroValue3
 t4 := Tryz.underlying4
 a4 := Tryz.isAgg4
 z4 := Tryz.sizeOf4
 v4 := Tryz.zeroValue4
 t5 := Tryz.underlying5
 a5 := Tryz.isAgg5
 z5 := Tryz.sizeOf5
 v5 := Tryz.zeroValue5
 t9 := Tryz.underlying9
 a9 := Tryz.isAgg9
 z9 := Tryz.sizeOf9
 v9 := Tryz.zeroValue9
 t46 := Tryz.underlying87
 a46 := Tryz.isAgg87
 z46 := Tryz.sizeOf87
 v46 := Tryz.zeroValue87
 t51 := Tryz.underlying135
 a51 := Tryz.isAgg135
 z51 := Tryz.sizeOf135
 v51 := Tryz.zeroValue135
 t53 := Tryz.underlying137
 a53 := Tryz.isAgg137
 z53 := Tryz.sizeOf137
 v53 := Tryz.zeroValue137 }
theorem Tryz.bits_Len (x : Int) (w : World) (h0 : 0 ≤ x) (h1 : x ≤ 18446744073709551615) :
  Calls Tryz.prog 50 #[.int .u64 x] w fun e w' => e = .returned (.int .i64 (Lib.bitLen x.toNat)) ∧ w' = w := Any.bits_Len Tryz.lays125 x w h0 h1
def Tryz.lays106_ren : Go.Shelf.Ren := ⟨fun | 106 => 51 | 213 => 100 | 265 => 131 | n => n,fun | 9 => 9 | 3 => 3 | n => n,fun | n => n⟩
theorem Tryz.lays106 : Go.Proofs.Lays.n106 Tryz.prog Tryz.lays106_ren := {
 mixed := by kernel_rfl
 f106 := Tryz.func51.trans (congrArg some (by kernel_rfl))
 f213 := Tryz.func100.trans (congrArg some (by kernel_rfl))
 f265 := Tryz.func131.trans (congrArg some (by kernel_rfl))
 t3 := Tryz.underlying3
 a3 := Tryz.isAgg3
 z3 := Tryz.sizeOf3
 v3 := Tryz.zeroValue3
 t9 := Tryz.underlying9
 a9 := Tryz.isAgg9
 z9 := Tryz.sizeOf9
 v9 := Tryz.zeroValue9 }
open Go.RowKit in
theorem Tryz.strings_Compare (a b : ByteArray) (w : World) :
  Calls Tryz.prog 51 #[.string a,.string b] w fun e w' => e = .returned (.int .i64 (Lib.compareBytes a.data.toList b.data.toList)) ∧ w' = w := Any.strings_Compare Tryz.lays106 a b w
def Tryz.lays137_ren : Go.Shelf.Ren := ⟨fun | 137 => 69 | 217 => 109 | 266 => 136 | n => n,fun | 9 => 9 | 5 => 5 | 3 => 3 | n => n,fun | n => n⟩
theorem Tryz.lays137 : Go.Proofs.Lays.n137 Tryz.prog Tryz.lays137_ren := {
 mixed := by kernel_rfl
 f137 := Tryz.func69.trans (congrArg some (by kernel_rfl))
 f217 := Tryz.func109.trans (congrArg some (by kernel_rfl))
 f266 := Tryz.func136.trans (congrArg some (by kernel_rfl))
 t3 := Tryz.underlying3
 a3 := Tryz.isAgg3
 z3 := Tryz.sizeOf3
 v3 := Tryz.zeroValue3
 t5 := Tryz.underlying5
 a5 := Tryz.isAgg5
 z5 := Tryz.sizeOf5
 v5 := Tryz.zeroValue5
 t9 := Tryz.underlying9
 a9 := Tryz.isAgg9
 z9 := Tryz.sizeOf9
 v9 := Tryz.zeroValue9 }
open Go.RowKit in
theorem Tryz.strings_IndexByte (s : ByteArray) (c : Int) (w : World) :
  Calls Tryz.prog 69 #[.string s,.int .u8 c] w fun e w' => e = .returned (.int .i64 (Lib.indexByte s.data.toList c.toNat.toUInt8)) ∧ w' = w := Any.strings_IndexByte Tryz.lays137 s c w
def Tryz.laysM171_ren : Go.Shelf.Ren := ⟨fun | 171 => 36 | 243 => 71 | 246 => 110 | 283 => 137 | 284 => 138 | 285 => 139 | 286 => 140 | 129 => 99 | 317 => 170 | 318 => 171 | 319 => 172 | 320 => 173 | 337 => 198 | 338 => 199 | n => n,fun | 3 => 3 | 9 => 9 | 2 => 2 | 4 => 4 | 171 => 168 | 0 => 0 | 53 => 137 | 37 => 99 | 5 => 5 | 173 => 170 | 212 => 212 | 51 => 135 | 20 => 20 | 213 => 213 | 46 => 87 | 232 => 310 | 233 => 311 | n => n,fun | 17 => 1 | 18 => 6 | 19 => 7 | n => n⟩
theorem Tryz.laysM171 : Go.Proofs.LaysM.n171 Tryz.prog Tryz.laysM171_ren := {
 mixed := by kernel_rfl
 f129 := Tryz.func99.trans (congrArg some (by kernel_rfl))
 f171 := Tryz.func36.trans (congrArg some (by kernel_rfl))
 f243 := Tryz.func71.trans (congrArg some (by kernel_rfl))
 f246 := Tryz.func110.trans (congrArg some (by kernel_rfl))
 f283 := Tryz.func137.trans (congrArg some (by kernel_rfl))
 f284 := Tryz.func138.trans (congrArg some (by kernel_rfl))
 f285 := Tryz.func139.trans (congrArg some (by kernel_rfl))
 f286 := Tryz.func140.trans (congrArg some (by kernel_rfl))
 f317 := Tryz.func170.trans (congrArg some (by kernel_rfl))
 f318 := Tryz.func171.trans (congrArg some (by kernel_rfl))
 f319 := Tryz.func172.trans (congrArg some (by kernel_rfl))
 f320 := Tryz.func173.trans (congrArg some (by kernel_rfl))
 f337 := Tryz.func198.trans (congrArg some (by kernel_rfl))
 f338 := Tryz.func199.trans (congrArg some (by kernel_rfl))
 t0 := Tryz.underlying0
 a0 := Tryz.isAgg0
 z0 := Tryz.sizeOf0
 v0 := Tryz.zeroValue0
 t2 := Tryz.underlying2
 a2 := Tryz.isAgg2
 z2 := Tryz.sizeOf2
 v2 := Tryz.zeroValue2
 t3 := Tryz.underlying3
 a3 := Tryz.isAgg3
 z3 := Tryz.sizeOf3
 v3 := Tryz.zeroValue3
 t4 := Tryz.underlying4
 a4 := Tryz.isAgg4
 z4 := Tryz.sizeOf4
 v4 := Tryz.zeroValue4
 t5 := Tryz.underlying5
 a5 := Tryz.isAgg5
 z5 := Tryz.sizeOf5
 v5 := Tryz.zeroValue5
 t9 := Tryz.underlying9
 a9 := Tryz.isAgg9
 z9 := Tryz.sizeOf9
 v9 := Tryz.zeroValue9
 t20 := Tryz.underlying20
 a20 := Tryz.isAgg20
 z20 := Tryz.sizeOf20
 v20 := Tryz.zeroValue20
 t37 := Tryz.underlying99
 a37 := Tryz.isAgg99
 z37 := Tryz.sizeOf99
 v37 := Tryz.zeroValue99
 t46 := Tryz.underlying87
 a46 := Tryz.isAgg87
 z46 := Tryz.sizeOf87
 v46 := Tryz.zeroValue87
 t51 := Tryz.underlying135
 a51 := Tryz.isAgg135
 z51 := Tryz.sizeOf135
 v51 := Tryz.zeroValue135
 t53 := Tryz.underlying137
 a53 := Tryz.isAgg137
 z53 := Tryz.sizeOf137
 v53 := Tryz.zeroValue137
 t171 := Tryz.underlying168
 a171 := Tryz.isAgg168
 z171 := Tryz.sizeOf168
 v171 := Tryz.zeroValue168
 t173 := Tryz.underlying170
 a173 := Tryz.isAgg170
 z173 := Tryz.sizeOf170
 v173 := Tryz.zeroValue170
 t212 := Tryz.underlying212
 a212 := Tryz.isAgg212
 z212 := Tryz.sizeOf212
 v212 := Tryz.zeroValue212
 t213 := Tryz.underlying213
 a213 := Tryz.isAgg213
 z213 := Tryz.sizeOf213
 t232 := Tryz.underlying310
 a232 := Tryz.isAgg310
 z232 := Tryz.sizeOf310
 v232 := Tryz.zeroValue310
 t233 := Tryz.underlying311
 a233 := Tryz.isAgg311
 z233 := Tryz.sizeOf311
 v233 := Tryz.zeroValue311
 g17 := by kernel_rfl
 g18 := by kernel_rfl
 g19 := by kernel_rfl
 i0 := by kernel_rfl
 i2 := by kernel_rfl
 i3 := by kernel_rfl
 i4 := by kernel_rfl
 i5 := by kernel_rfl
 i9 := by kernel_rfl
 i20 := by kernel_rfl
 i37 := by kernel_rfl
 i46 := by kernel_rfl
 i51 := by kernel_rfl
 i53 := by kernel_rfl
 i171 := by kernel_rfl
 i173 := by kernel_rfl
 i212 := by kernel_rfl
 i232 := by kernel_rfl
 i233 := by kernel_rfl
 m17 := by kernel_rfl
 m18 := by kernel_rfl
 m19 := by kernel_rfl }
open Go.RowKit Go.Sort Go.Lib in
theorem Tryz.strconv_Itoa (n : Int) (h0 : -9223372036854775808 ≤ n) (h1 : n ≤ 9223372036854775807) (w : World) (htab : Lib.TabIs Tryz.prog w "internal/strconv.uint64pow10" .u64 Lib.pow10Tab) :
  Calls Tryz.prog 36 #[.int .i64 n] w fun e w' => e = .returned (.string ⟨(Lib.itoa n).toArray⟩) ∧ ∃ k os,w' = grow (w.drewN k) os := Any.strconv_Itoa Tryz.laysM171 n h0 h1 w htab
def Tryz.laysM316_ren : Go.Shelf.Ren := ⟨fun | 316 => 179 | n => n,fun | 9 => 9 | 3 => 3 | 4 => 4 | 37 => 99 | 0 => 0 | 127 => 172 | 5 => 5 | n => n,fun | n => n⟩
theorem Tryz.laysM316 : Go.Proofs.LaysM.n316 Tryz.prog Tryz.laysM316_ren := {
 mixed := by kernel_rfl
 f316 := Tryz.func179.trans (congrArg some (by kernel_rfl))
 t0 := Tryz.underlying0
 a0 := Tryz.isAgg0
 z0 := Tryz.sizeOf0
 v0 := Tryz.zeroValue0
 t3 := Tryz.underlying3
 a3 := Tryz.isAgg3
 z3 := Tryz.sizeOf3
 v3 := Tryz.zeroValue3
 t4 := Tryz.underlying4
 a4 := Tryz.isAgg4
 z4 := Tryz.sizeOf4
 v4 := Tryz.zeroValue4
 t9 := Tryz.underlying9
 a9 := Tryz.isAgg9
 z9 := Tryz.sizeOf9
 v9 := Tryz.zeroValue9
 t37 := Tryz.underlying99
 a37 := Tryz.isAgg99
 z37 := Tryz.sizeOf99
 v37 := Tryz.zeroValue99
 t127 := Tryz.underlying172
 a127 := Tryz.isAgg172
 z127 := Tryz.sizeOf172
 v127 := Tryz.zeroValue172
 t5 := Tryz.underlying5
 a5 := Tryz.isAgg5
 z5 := Tryz.sizeOf5
 v5 := Tryz.zeroValue5
 i0 := by kernel_rfl
 i3 := by kernel_rfl
 i4 := by kernel_rfl
 i5 := by kernel_rfl
 i9 := by kernel_rfl
 i37 := by kernel_rfl
 i127 := by kernel_rfl }
open Go.RowKit in
theorem Tryz.stringslite_Clone (s : ByteArray) (w : World) (hlim : s.size ≤ 281474976710656) :
  Calls Tryz.prog 179 #[.string s] w fun e w' => e = .returned (.string s) ∧ Below w.heap.size w w' := Any.stringslite_Clone Tryz.laysM316 s w hlim
def Tryz.laysC172_ren : Go.Shelf.Ren := ⟨fun | 172 => 78 | 244 => 119 | 245 => 120 | 247 => 145 | 279 => 146 | 280 => 147 | 281 => 148 | 282 => 149 | 287 => 178 | 316 => 179 | 171 => 36 | 205 => 180 | 321 => 205 | 322 => 206 | 243 => 71 | 246 => 110 | 283 => 137 | 284 => 138 | 285 => 139 | 286 => 140 | 129 => 99 | 317 => 170 | 318 => 171 | 319 => 172 | 320 => 173 | 337 => 198 | 338 => 199 | n => n,fun | 9 => 9 | 3 => 3 | 75 => 104 | 76 => 105 | 4 => 4 | 5 => 5 | 167 => 178 | 37 => 99 | 0 => 0 | 85 => 179 | 2 => 2 | 168 => 181 | 53 => 137 | 175 => 219 | 46 => 87 | 210 => 222 | 127 => 172 | 145 => 247 | 143 => 245 | 21 => 21 | 171 => 168 | 173 => 170 | 212 => 212 | 51 => 135 | 20 => 20 | 213 => 213 | 232 => 310 | 233 => 311 | 80 => 149 | n => n,fun | 15 => 2 | 16 => 3 | 17 => 1 | 18 => 6 | 19 => 7 | n => n⟩
theorem Tryz.laysC172 : Go.Proofs.LaysC.n172 Tryz.prog Tryz.laysC172_ren := {
 mixed := by kernel_rfl
 f129 := Tryz.func99.trans (congrArg some (by kernel_rfl))
 f171 := Tryz.func36.trans (congrArg some (by kernel_rfl))
 f172 := Tryz.func78.trans (congrArg some (by kernel_rfl))
 f205 := Tryz.func180.trans (congrArg some (by kernel_rfl))
 f243 := Tryz.func71.trans (congrArg some (by kernel_rfl))
 f244 := Tryz.func119.trans (congrArg some (by kernel_rfl))
 f245 := Tryz.func120.trans (congrArg some (by kernel_rfl))
 f246 := Tryz.func110.trans (congrArg some (by kernel_rfl))
 f247 := Tryz.func145.trans (congrArg some (by kernel_rfl))
 f279 := Tryz.func146.trans (congrArg some (by kernel_rfl))
 f280 := Tryz.func147.trans (congrArg some (by kernel_rfl))
 f281 := Tryz.func148.trans (congrArg some (by kernel_rfl))
 f282 := Tryz.func149.trans (congrArg some (by kernel_rfl))
 f283 := Tryz.func137.trans (congrArg some (by kernel_rfl))
 f284 := Tryz.func138.trans (congrArg some (by kernel_rfl))
 f285 := Tryz.func139.trans (congrArg some (by kernel_rfl))
 f286 := Tryz.func140.trans (congrArg some (by kernel_rfl))
 f287 := Tryz.func178.trans (congrArg some (by kernel_rfl))
 f316 := Tryz.func179.trans (congrArg some (by kernel_rfl))
 f317 := Tryz.func170.trans (congrArg some (by kernel_rfl))
 f318 := Tryz.func171.trans (congrArg some (by kernel_rfl))
 f319 := Tryz.func172.trans (congrArg some (by kernel_rfl))
 f320 := Tryz.func173.trans (congrArg some (by kernel_rfl))
 f321 := Tryz.func205.trans (congrArg some (by kernel_rfl))
 f322 := Tryz.func206.trans (congrArg some (by kernel_rfl))
 f337 := Tryz.func198.trans (congrArg some (by kernel_rfl))
 f338 := Tryz.func199.trans (congrArg some (by kernel_rfl))
 t0 := Tryz.underlying0
 a0 := Tryz.isAgg0
 z0 := Tryz.sizeOf0
 v0 := Tryz.zeroValue0
 t2 := Tryz.underlying2
 a2 := Tryz.isAgg2
 z2 := Tryz.sizeOf2
 v2 := Tryz.zeroValue2
 t3 := Tryz.underlying3
 a3 := Tryz.isAgg3
 z3 := Tryz.sizeOf3
 v3 := Tryz.zeroValue3
 t4 := Tryz.underlying4
 a4 := Tryz.isAgg4
 z4 := Tryz.sizeOf4
 v4 := Tryz.zeroValue4
 t5 := Tryz.underlying5
 a5 := Tryz.isAgg5
 z5 := Tryz.sizeOf5
 v5 := Tryz.zeroValue5
 t9 := Tryz.underlying9
 a9 := Tryz.isAgg9
 z9 := Tryz.sizeOf9
 v9 := Tryz.zeroValue9
 t20 := Tryz.underlying20
 a20 := Tryz.isAgg20
 z20 := Tryz.sizeOf20
 v20 := Tryz.zeroValue20
 t21 := Tryz.underlying21
 a21 := Tryz.isAgg21
 z21 := Tryz.sizeOf21
 v21 := Tryz.zeroValue21
 t37 := Tryz.underlying99
 a37 := Tryz.isAgg99
 z37 := Tryz.sizeOf99
 v37 := Tryz.zeroValue99
 t46 := Tryz.underlying87
 a46 := Tryz.isAgg87
 z46 := Tryz.sizeOf87
 v46 := Tryz.zeroValue87
 t51 := Tryz.underlying135
 a51 := Tryz.isAgg135
 z51 := Tryz.sizeOf135
 v51 := Tryz.zeroValue135
 t53 := Tryz.underlying137
 a53 := Tryz.isAgg137
 z53 := Tryz.sizeOf137
 v53 := Tryz.zeroValue137
 t75 := Tryz.underlying104
 a75 := Tryz.isAgg104
 z75 := Tryz.sizeOf104
 v75 := Tryz.zeroValue104
 t76 := Tryz.underlying105
 a76 := Tryz.isAgg105
 z76 := Tryz.sizeOf105
 v76 := Tryz.zeroValue105
 t85 := Tryz.underlying179
 a85 := Tryz.isAgg179
 z85 := Tryz.sizeOf179
 v85 := Tryz.zeroValue179
 t127 := Tryz.underlying172
 a127 := Tryz.isAgg172
 z127 := Tryz.sizeOf172
 v127 := Tryz.zeroValue172
 t143 := Tryz.underlying245
 a143 := Tryz.isAgg245
 z143 := Tryz.sizeOf245
 v143 := Tryz.zeroValue245
 t145 := Tryz.underlying247
 a145 := Tryz.isAgg247
 z145 := Tryz.sizeOf247
 v145 := Tryz.zeroValue247
 t167 := Tryz.underlying178
 a167 := Tryz.isAgg178
 z167 := Tryz.sizeOf178
 v167 := Tryz.zeroValue178
 t168 := Tryz.underlying181
 a168 := Tryz.isAgg181
 z168 := Tryz.sizeOf181
 v168 := Tryz.zeroValue181
 t171 := Tryz.underlying168
 a171 := Tryz.isAgg168
 z171 := Tryz.sizeOf168
 v171 := Tryz.zeroValue168
 t173 := Tryz.underlying170
 a173 := Tryz.isAgg170
 z173 := Tryz.sizeOf170
 v173 := Tryz.zeroValue170
 t175 := Tryz.underlying219
 a175 := Tryz.isAgg219
 z175 := Tryz.sizeOf219
 v175 := Tryz.zeroValue219
 t210 := Tryz.underlying222
 a210 := Tryz.isAgg222
 z210 := Tryz.sizeOf222
 v210 := Tryz.zeroValue222
 t212 := Tryz.underlying212
 a212 := Tryz.isAgg212
 z212 := Tryz.sizeOf212
 v212 := Tryz.zeroValue212
 t213 := Tryz.underlying213
 a213 := Tryz.isAgg213
 z213 := Tryz.sizeOf213
 t232 := Tryz.underlying310
 a232 := Tryz.isAgg310
 z232 := Tryz.sizeOf310
 v232 := Tryz.zeroValue310
 t233 := Tryz.underlying311
 a233 := Tryz.isAgg311
 z233 := Tryz.sizeOf311
 v233 := Tryz.zeroValue311
 g15 := by kernel_rfl
 g16 := by kernel_rfl
 g17 := by kernel_rfl
 g18 := by kernel_rfl
 g19 := by kernel_rfl
 t80 := Tryz.underlying149
 a80 := Tryz.isAgg149
 z80 := Tryz.sizeOf149
 v80 := Tryz.zeroValue149
 i0 := by kernel_rfl
 i2 := by kernel_rfl
 i3 := by kernel_rfl
 i4 := by kernel_rfl
 i5 := by kernel_rfl
 i9 := by kernel_rfl
 i20 := by kernel_rfl
 i21 := by kernel_rfl
 i37 := by kernel_rfl
 i46 := by kernel_rfl
 i51 := by kernel_rfl
 i53 := by kernel_rfl
 i75 := by kernel_rfl
 i76 := by kernel_rfl
 i80 := by kernel_rfl
 i85 := by kernel_rfl
 i127 := by kernel_rfl
 i143 := by kernel_rfl
 i145 := by kernel_rfl
 i167 := by kernel_rfl
 i168 := by kernel_rfl
 i171 := by kernel_rfl
 i173 := by kernel_rfl
 i175 := by kernel_rfl
 i210 := by kernel_rfl
 i212 := by kernel_rfl
 i232 := by kernel_rfl
 i233 := by kernel_rfl
 m15 := by kernel_rfl
 m16 := by kernel_rfl
 m17 := by kernel_rfl
 m18 := by kernel_rfl
 m19 := by kernel_rfl
 c0 := by kernel_rfl
 c2 := by kernel_rfl
 c3 := by kernel_rfl
 c4 := by kernel_rfl
 c5 := by kernel_rfl
 c9 := by kernel_rfl
 c20 := by kernel_rfl
 c21 := by kernel_rfl
 c37 := by kernel_rfl
 c46 := by kernel_rfl
 c51 := by kernel_rfl
 c53 := by kernel_rfl
 c75 := by kernel_rfl
 c76 := by kernel_rfl
 c80 := by kernel_rfl
 c85 := by kernel_rfl
 c127 := by kernel_rfl
 c143 := by kernel_rfl
 c145 := by kernel_rfl
 c167 := by kernel_rfl
 c168 := by kernel_rfl
 c171 := by kernel_rfl
 c173 := by kernel_rfl
 c175 := by kernel_rfl
 c210 := by kernel_rfl
 c212 := by kernel_rfl
 c213 := by kernel_rfl
 c232 := by kernel_rfl
 c233 := by kernel_rfl }
open Go.RowKit in
theorem Tryz.strconv_Atoi_ok (s : ByteArray) (hmax : s.size ≤ 9223372036854775806) (v : Int) (h : Lib.atoiAll s.data.toList = .ok v) (w : World) :
  Calls Tryz.prog 78 #[.string s] w fun e w' => e = .returned (.tuple #[.int .i64 v,.nilIface]) ∧ (w' = w ∨ ∃ t,w' = Lib.bytesWorld w 5 t) := Any.strconv_Atoi_ok Tryz.laysC172 s hmax v h w
open Go.RowKit in
theorem Tryz.strconv_Atoi_syntax (s : ByteArray) (hlim : s.size ≤ 281474976710656) (h : Lib.atoiAll s.data.toList = Lib.atoiAll []) (ev : Value) (w : World) (hv : w.cell? ⟨2,0,none⟩ = some ev) (hev : ev = .nilIface ∨ ∃ te pe,ev = .iface te pe) :
  Calls Tryz.prog 78 #[.string s] w fun e w' => ∃ N,e = .returned (.tuple #[.int .i64 (0),.iface 181 (.pointer (some ⟨N,0,none⟩))]) ∧ w.heap.size ≤ N ∧ w'.heap[N]? = some (.cells #[.string ⟨#[65,116,111,105]⟩,.string s,ev] 222 (0,0)) ∧ Below w.heap.size w w' := Any.strconv_Atoi_syntax Tryz.laysC172 s hlim h ev w hv hev
open Go.RowKit in
theorem Tryz.strconv_Atoi_range (s : ByteArray) (hlim : s.size ≤ 281474976710656) (h : Lib.atoiAll s.data.toList = .range) (ev : Value) (w : World) (hv : w.cell? ⟨3,0,none⟩ = some ev) (hev : ev = .nilIface ∨ ∃ te pe,ev = .iface te pe) :
  Calls Tryz.prog 78 #[.string s] w fun e w' => ∃ N,e = .returned (.tuple #[.int .i64 (Lib.atoiSat s.data.toList),.iface 181 (.pointer (some ⟨N,0,none⟩))]) ∧ w.heap.size ≤ N ∧ w'.heap[N]? = some (.cells #[.string ⟨#[65,116,111,105]⟩,.string s,ev] 222 (0,0)) ∧ Below w.heap.size w w' := Any.strconv_Atoi_range Tryz.laysC172 s hlim h ev w hv hev
def Tryz.lays144_ren : Go.Shelf.Ren := ⟨fun | 144 => 87 | 143 => 124 | 219 => 132 | 217 => 109 | 225 => 163 | 224 => 164 | 267 => 165 | 266 => 136 | 314 => 196 | n => n,fun | 9 => 9 | 4 => 4 | 3 => 3 | 5 => 5 | 46 => 87 | 146 => 233 | 51 => 135 | n => n,fun | 1 => 0 | n => n⟩
theorem Tryz.lays144 : Go.Proofs.Lays.n144 Tryz.prog Tryz.lays144_ren := {
 mixed := by kernel_rfl
 f143 := Tryz.func124.trans (congrArg some (by kernel_rfl))
 f144 := Tryz.func87.trans (congrArg some (by kernel_rfl))
 f217 := Tryz.func109.trans (congrArg some (by kernel_rfl))
 f219 := Tryz.func132.trans (congrArg some (by kernel_rfl))
 f224 := Tryz.func164.trans (congrArg some (by kernel_rfl))
 f225 := Tryz.func163.trans (congrArg some (by kernel_rfl))
 f266 := Tryz.func136.trans (congrArg some (by kernel_rfl))
 f267 := Tryz.func165.trans (congrArg some (by kernel_rfl))
 f314 := Tryz.func196.trans (congrArg some (by kernel_rfl))
 t3 := Tryz.underlying3
 a3 := Tryz.isAgg3
 z3 := Tryz.sizeOf3
 v3 := Tryz.zeroValue3
 t4 := Tryz.underlying4
 a4 := Tryz.isAgg4
 z4 := Tryz.sizeOf4
 v4 := Tryz.zeroValue4
 t5 := Tryz.underlying5
 a5 := Tryz.isAgg5
 z5 := Tryz.sizeOf5
 v5 := Tryz.zeroValue5
 t9 := Tryz.underlying9
 a9 := Tryz.isAgg9
 z9 := Tryz.sizeOf9
 v9 := Tryz.zeroValue9
 t46 := Tryz.underlying87
 a46 := Tryz.isAgg87
 z46 := Tryz.sizeOf87
 v46 := Tryz.zeroValue87
 t51 := Tryz.underlying135
 a51 := Tryz.isAgg135
 z51 := Tryz.sizeOf135
 v51 := Tryz.zeroValue135
 t146 := Tryz.underlying233
 a146 := Tryz.isAgg233
 z146 := Tryz.sizeOf233
 v146 := Tryz.zeroValue233
 g1 := by kernel_rfl }
open Go.RowKit Go.Lib in
theorem Tryz.strings_Contains (s sub : ByteArray) (m : Int) (w : World) (hs : s.size < 4294967281) (hm : w.cell? ⟨0,0,none⟩ = some (.int .i64 m)) :
  Calls Tryz.prog 87 #[.string s,.string sub] w fun e w' => e = .returned (.bool (Lib.contains s.data.toList sub.data.toList)) ∧ w' = w := Any.strings_Contains Tryz.lays144 s sub m w hs hm
def Tryz.lays145_ren : Go.Shelf.Ren := ⟨fun | 145 => 58 | 220 => 102 | 219 => 132 | 217 => 109 | 225 => 163 | 224 => 164 | 267 => 165 | 266 => 136 | 314 => 196 | n => n,fun | 9 => 9 | 4 => 4 | 59 => 93 | 3 => 3 | 5 => 5 | 46 => 87 | 146 => 233 | 51 => 135 | n => n,fun | 1 => 0 | n => n⟩
theorem Tryz.lays145 : Go.Proofs.Lays.n145 Tryz.prog Tryz.lays145_ren := {
 mixed := by kernel_rfl
 f145 := Tryz.func58.trans (congrArg some (by kernel_rfl))
 f217 := Tryz.func109.trans (congrArg some (by kernel_rfl))
 f219 := Tryz.func132.trans (congrArg some (by kernel_rfl))
 f220 := Tryz.func102.trans (congrArg some (by kernel_rfl))
 f224 := Tryz.func164.trans (congrArg some (by kernel_rfl))
 f225 := Tryz.func163.trans (congrArg some (by kernel_rfl))
 f266 := Tryz.func136.trans (congrArg some (by kernel_rfl))
 f267 := Tryz.func165.trans (congrArg some (by kernel_rfl))
 f314 := Tryz.func196.trans (congrArg some (by kernel_rfl))
 t3 := Tryz.underlying3
 a3 := Tryz.isAgg3
 z3 := Tryz.sizeOf3
 v3 := Tryz.zeroValue3
 t4 := Tryz.underlying4
 a4 := Tryz.isAgg4
 z4 := Tryz.sizeOf4
 v4 := Tryz.zeroValue4
 t5 := Tryz.underlying5
 a5 := Tryz.isAgg5
 z5 := Tryz.sizeOf5
 v5 := Tryz.zeroValue5
 t9 := Tryz.underlying9
 a9 := Tryz.isAgg9
 z9 := Tryz.sizeOf9
 v9 := Tryz.zeroValue9
 t46 := Tryz.underlying87
 a46 := Tryz.isAgg87
 z46 := Tryz.sizeOf87
 v46 := Tryz.zeroValue87
 t51 := Tryz.underlying135
 a51 := Tryz.isAgg135
 z51 := Tryz.sizeOf135
 v51 := Tryz.zeroValue135
 t59 := Tryz.underlying93
 a59 := Tryz.isAgg93
 z59 := Tryz.sizeOf93
 v59 := Tryz.zeroValue93
 t146 := Tryz.underlying233
 a146 := Tryz.isAgg233
 z146 := Tryz.sizeOf233
 v146 := Tryz.zeroValue233
 g1 := by kernel_rfl }
open Go.RowKit Go.Lib in
theorem Tryz.strings_Cut (s sep : ByteArray) (m : Int) (w : World) (hs : s.size < 4294967281) (hm : w.cell? ⟨0,0,none⟩ = some (.int .i64 m)) :
  Calls Tryz.prog 58 #[.string s,.string sep] w fun e w' => e = .returned (.tuple #[.string ⟨(Lib.cut s.data.toList sep.data.toList).1.toArray⟩,.string ⟨(Lib.cut s.data.toList sep.data.toList).2.1.toArray⟩,.bool (Lib.cut s.data.toList sep.data.toList).2.2]) ∧ ∃ n,w' = w.drewN n := Any.strings_Cut Tryz.lays145 s sep m w hs hm
def Tryz.lays138_ren : Go.Shelf.Ren := ⟨fun | 138 => 134 | 195 => 166 | 218 => 168 | 143 => 124 | 219 => 132 | 217 => 109 | 225 => 163 | 224 => 164 | 267 => 165 | 266 => 136 | 314 => 196 | n => n,fun | 9 => 9 | 3 => 3 | 4 => 4 | 5 => 5 | 0 => 0 | 46 => 87 | 146 => 233 | 51 => 135 | n => n,fun | 1 => 0 | n => n⟩
theorem Tryz.lays138 : Go.Proofs.Lays.n138 Tryz.prog Tryz.lays138_ren := {
 mixed := by kernel_rfl
 f138 := Tryz.func134.trans (congrArg some (by kernel_rfl))
 f143 := Tryz.func124.trans (congrArg some (by kernel_rfl))
 f195 := Tryz.func166.trans (congrArg some (by kernel_rfl))
 f217 := Tryz.func109.trans (congrArg some (by kernel_rfl))
 f218 := Tryz.func168.trans (congrArg some (by kernel_rfl))
 f219 := Tryz.func132.trans (congrArg some (by kernel_rfl))
 f224 := Tryz.func164.trans (congrArg some (by kernel_rfl))
 f225 := Tryz.func163.trans (congrArg some (by kernel_rfl))
 f266 := Tryz.func136.trans (congrArg some (by kernel_rfl))
 f267 := Tryz.func165.trans (congrArg some (by kernel_rfl))
 f314 := Tryz.func196.trans (congrArg some (by kernel_rfl))
 t0 := Tryz.underlying0
 a0 := Tryz.isAgg0
 z0 := Tryz.sizeOf0
 v0 := Tryz.zeroValue0
 t3 := Tryz.underlying3
 a3 := Tryz.isAgg3
 z3 := Tryz.sizeOf3
 v3 := Tryz.zeroValue3
 t4 := Tryz.underlying4
 a4 := Tryz.isAgg4
 z4 := Tryz.sizeOf4
 v4 := Tryz.zeroValue4
 t5 := Tryz.underlying5
 a5 := Tryz.isAgg5
 z5 := Tryz.sizeOf5
 v5 := Tryz.zeroValue5
 t9 := Tryz.underlying9
 a9 := Tryz.isAgg9
 z9 := Tryz.sizeOf9
 v9 := Tryz.zeroValue9
 t46 := Tryz.underlying87
 a46 := Tryz.isAgg87
 z46 := Tryz.sizeOf87
 v46 := Tryz.zeroValue87
 t51 := Tryz.underlying135
 a51 := Tryz.isAgg135
 z51 := Tryz.sizeOf135
 v51 := Tryz.zeroValue135
 t146 := Tryz.underlying233
 a146 := Tryz.isAgg233
 z146 := Tryz.sizeOf233
 v146 := Tryz.zeroValue233
 g1 := by kernel_rfl }
open Go.RowKit Go.Lib in
theorem Tryz.strings_Count_one (s : ByteArray) (c : UInt8) (w : World) :
  Calls Tryz.prog 134 #[.string s,.string ⟨#[c]⟩] w fun e w' => e = .returned (.int .i64 (Lib.countByte s.data.toList c)) ∧ w' = w := Any.strings_Count_one Tryz.lays138 s c w
def Tryz.lays206_ren : Go.Shelf.Ren := ⟨fun | 206 => 105 | n => n,fun | 9 => 9 | 4 => 4 | 3 => 3 | n => n,fun | n => n⟩
theorem Tryz.lays206 : Go.Proofs.Lays.n206 Tryz.prog Tryz.lays206_ren := {
 mixed := by kernel_rfl
 f206 := Tryz.func105.trans (congrArg some (by kernel_rfl))
 t3 := Tryz.underlying3
 a3 := Tryz.isAgg3
 z3 := Tryz.sizeOf3
 v3 := Tryz.zeroValue3
 t4 := Tryz.underlying4
 a4 := Tryz.isAgg4
 z4 := Tryz.sizeOf4
 v4 := Tryz.zeroValue4
 t9 := Tryz.underlying9
 a9 := Tryz.isAgg9
 z9 := Tryz.sizeOf9
 v9 := Tryz.zeroValue9 }
open Go.RowKit Go.Lib in
theorem Tryz.stringslite_HasPrefix (s p : ByteArray) (w : World) :
  Calls Tryz.prog 105 #[.string s,.string p] w fun e w' => e = .returned (.bool (Lib.hasPrefix s.data.toList p.data.toList)) ∧ w' = w := Any.stringslite_HasPrefix Tryz.lays206 s p w
def Tryz.lays146_ren : Go.Shelf.Ren := ⟨fun | 146 => 59 | 221 => 103 | 268 => 133 | 138 => 134 | 143 => 124 | 195 => 166 | 197 => 167 | 218 => 168 | 219 => 132 | 260 => 197 | 217 => 109 | 225 => 163 | 224 => 164 | 267 => 165 | 266 => 136 | 314 => 196 | n => n,fun | 9 => 9 | 31 => 62 | 3 => 3 | 4 => 4 | 0 => 0 | 105 => 208 | 21 => 21 | 5 => 5 | 46 => 87 | 119 => 306 | 139 => 309 | 138 => 308 | 146 => 233 | 51 => 135 | n => n,fun | 1 => 0 | 3 => 4 | 4 => 5 | n => n⟩
theorem Tryz.lays146 : Go.Proofs.Lays.n146 Tryz.prog Tryz.lays146_ren := {
 mixed := by kernel_rfl
 f138 := Tryz.func134.trans (congrArg some (by kernel_rfl))
 f143 := Tryz.func124.trans (congrArg some (by kernel_rfl))
 f146 := Tryz.func59.trans (congrArg some (by kernel_rfl))
 f195 := Tryz.func166.trans (congrArg some (by kernel_rfl))
 f197 := Tryz.func167.trans (congrArg some (by kernel_rfl))
 f217 := Tryz.func109.trans (congrArg some (by kernel_rfl))
 f218 := Tryz.func168.trans (congrArg some (by kernel_rfl))
 f219 := Tryz.func132.trans (congrArg some (by kernel_rfl))
 f221 := Tryz.func103.trans (congrArg some (by kernel_rfl))
 f224 := Tryz.func164.trans (congrArg some (by kernel_rfl))
 f225 := Tryz.func163.trans (congrArg some (by kernel_rfl))
 f260 := Tryz.func197.trans (congrArg some (by kernel_rfl))
 f266 := Tryz.func136.trans (congrArg some (by kernel_rfl))
 f267 := Tryz.func165.trans (congrArg some (by kernel_rfl))
 f268 := Tryz.func133.trans (congrArg some (by kernel_rfl))
 f314 := Tryz.func196.trans (congrArg some (by kernel_rfl))
 t0 := Tryz.underlying0
 a0 := Tryz.isAgg0
 z0 := Tryz.sizeOf0
 v0 := Tryz.zeroValue0
 t3 := Tryz.underlying3
 a3 := Tryz.isAgg3
 z3 := Tryz.sizeOf3
 v3 := Tryz.zeroValue3
 t4 := Tryz.underlying4
 a4 := Tryz.isAgg4
 z4 := Tryz.sizeOf4
 v4 := Tryz.zeroValue4
 t5 := Tryz.underlying5
 a5 := Tryz.isAgg5
 z5 := Tryz.sizeOf5
 v5 := Tryz.zeroValue5
 t9 := Tryz.underlying9
 a9 := Tryz.isAgg9
 z9 := Tryz.sizeOf9
 v9 := Tryz.zeroValue9
 t21 := Tryz.underlying21
 a21 := Tryz.isAgg21
 z21 := Tryz.sizeOf21
 v21 := Tryz.zeroValue21
 t31 := Tryz.underlying62
 a31 := Tryz.isAgg62
 z31 := Tryz.sizeOf62
 v31 := Tryz.zeroValue62
 t46 := Tryz.underlying87
 a46 := Tryz.isAgg87
 z46 := Tryz.sizeOf87
 v46 := Tryz.zeroValue87
 t51 := Tryz.underlying135
 a51 := Tryz.isAgg135
 z51 := Tryz.sizeOf135
 v51 := Tryz.zeroValue135
 t105 := Tryz.underlying208
 a105 := Tryz.isAgg208
 z105 := Tryz.sizeOf208
 v105 := Tryz.zeroValue208
 t119 := Tryz.underlying306
 a119 := Tryz.isAgg306
 z119 := Tryz.sizeOf306
 t138 := Tryz.underlying308
 a138 := Tryz.isAgg308
 z138 := Tryz.sizeOf308
 v138 := Tryz.zeroValue308
 t139 := Tryz.underlying309
 a139 := Tryz.isAgg309
 z139 := Tryz.sizeOf309
 v139 := Tryz.zeroValue309
 t146 := Tryz.underlying233
 a146 := Tryz.isAgg233
 z146 := Tryz.sizeOf233
 v146 := Tryz.zeroValue233
 g1 := by kernel_rfl
 g3 := by kernel_rfl
 g4 := by kernel_rfl }
open Go.RowKit Go.Lib in
theorem Tryz.strings_Split (s sep : ByteArray) (m : Int) (w : World) (hs : s.size < 4294967281) (hm : w.cell? ⟨0,0,none⟩ = some (.int .i64 m)) (h1 : 1 ≤ sep.size) :
  Calls Tryz.prog 59 #[.string s,.string sep] w fun e w' =>
   e = .returned (.slice (some ⟨w.heap.size,0,none⟩) (Lib.countB s sep + 1) (Lib.countB s sep + 1)) ∧ w' = w.alloc (.cells ((Lib.splitB sep 0 (Lib.countB s sep) s).map Value.string).toArray 9) := Any.strings_Split Tryz.lays146 (by kernel_rfl) s sep m w hs hm h1
def Tryz.pdqFile_ren : Go.Shelf.Ren := ⟨fun | 14 => 49 | 20 => 90 | 21 => 91 | 22 => 92 | 23 => 93 | 24 => 94 | 25 => 95 | 26 => 96 | 27 => 97 | 46 => 126 | 47 => 127 | 48 => 128 | 49 => 129 | 50 => 130 | 15 => 50 | 57 => 162 | 28 => 98 | 29 => 99 | n => n,fun | 24 => 52 | 22 => 26 | 3 => 3 | 25 => 55 | 4 => 4 | 0 => 0 | 46 => 128 | 45 => 127 | 50 => 132 | 66 => 160 | 39 => 87 | 55 => 137 | 70 => 164 | 76 => 203 | 77 => 204 | 53 => 135 | 5 => 5 | 9 => 9 | n => n,fun | n => n⟩
theorem Tryz.pdqFile : Go.Proofs.SlLaysF0.n14 Tryz.prog Tryz.pdqFile_ren := {
 mixed := by kernel_rfl
 f14 := ⟨Tryz.f49.name,by decide,Tryz.func49.trans (congrArg some (by kernel_rfl))⟩
 f15 := Tryz.func50.trans (congrArg some (by kernel_rfl))
 f20 := ⟨Tryz.f90.name,by decide,Tryz.func90.trans (congrArg some (by kernel_rfl))⟩
 f21 := ⟨Tryz.f91.name,by decide,Tryz.func91.trans (congrArg some (by kernel_rfl))⟩
 f22 := ⟨Tryz.f92.name,by decide,Tryz.func92.trans (congrArg some (by kernel_rfl))⟩
 f23 := ⟨Tryz.f93.name,by decide,Tryz.func93.trans (congrArg some (by kernel_rfl))⟩
 f24 := ⟨Tryz.f94.name,by decide,Tryz.func94.trans (congrArg some (by kernel_rfl))⟩
 f25 := ⟨Tryz.f95.name,by decide,Tryz.func95.trans (congrArg some (by kernel_rfl))⟩
 f26 := ⟨Tryz.f96.name,by decide,Tryz.func96.trans (congrArg some (by kernel_rfl))⟩
 f27 := ⟨Tryz.f97.name,by decide,Tryz.func97.trans (congrArg some (by kernel_rfl))⟩
 f28 := Tryz.func98.trans (congrArg some (by kernel_rfl))
 f29 := Tryz.func99.trans (congrArg some (by kernel_rfl))
 f46 := ⟨Tryz.f126.name,by decide,Tryz.func126.trans (congrArg some (by kernel_rfl))⟩
 f47 := Tryz.func127.trans (congrArg some (by kernel_rfl))
 f48 := Tryz.func128.trans (congrArg some (by kernel_rfl))
 f49 := ⟨Tryz.f129.name,by decide,Tryz.func129.trans (congrArg some (by kernel_rfl))⟩
 f50 := ⟨Tryz.f130.name,by decide,Tryz.func130.trans (congrArg some (by kernel_rfl))⟩
 f57 := ⟨Tryz.f162.name,by decide,Tryz.func162.trans (congrArg some (by kernel_rfl))⟩
 t0 := Tryz.underlying0
 a0 := Tryz.isAgg0
 z0 := Tryz.sizeOf0
 v0 := Tryz.zeroValue0
 t3 := Tryz.underlying3
 a3 := Tryz.isAgg3
 z3 := Tryz.sizeOf3
 v3 := Tryz.zeroValue3
 t4 := Tryz.underlying4
 a4 := Tryz.isAgg4
 z4 := Tryz.sizeOf4
 v4 := Tryz.zeroValue4
 t5 := Tryz.underlying5
 a5 := Tryz.isAgg5
 z5 := Tryz.sizeOf5
 v5 := Tryz.zeroValue5
 t9 := Tryz.underlying9
 a9 := Tryz.isAgg9
 z9 := Tryz.sizeOf9
 v9 := Tryz.zeroValue9
 t22 := Tryz.underlying26
 a22 := Tryz.isAgg26
 z22 := Tryz.sizeOf26
 v22 := Tryz.zeroValue26
 t25 := Tryz.underlying55
 a25 := Tryz.isAgg55
 z25 := Tryz.sizeOf55
 v25 := Tryz.zeroValue55
 t39 := Tryz.underlying87
 a39 := Tryz.isAgg87
 z39 := Tryz.sizeOf87
 v39 := Tryz.zeroValue87
 t45 := Tryz.underlying127
 a45 := Tryz.isAgg127
 z45 := Tryz.sizeOf127
 v45 := Tryz.zeroValue127
 t46 := Tryz.underlying128
 a46 := Tryz.isAgg128
 z46 := Tryz.sizeOf128
 v46 := Tryz.zeroValue128
 t50 := Tryz.underlying132
 a50 := Tryz.isAgg132
 z50 := Tryz.sizeOf132
 v50 := Tryz.zeroValue132
 t53 := Tryz.underlying135
 a53 := Tryz.isAgg135
 z53 := Tryz.sizeOf135
 v53 := Tryz.zeroValue135
 t55 := Tryz.underlying137
 a55 := Tryz.isAgg137
 z55 := Tryz.sizeOf137
 v55 := Tryz.zeroValue137
 t66 := Tryz.underlying160
 a66 := Tryz.isAgg160
 z66 := Tryz.sizeOf160
 v66 := Tryz.zeroValue160
 t70 := Tryz.underlying164
 a70 := Tryz.isAgg164
 z70 := Tryz.sizeOf164
 v70 := Tryz.zeroValue164
 t76 := Tryz.underlying203
 a76 := Tryz.isAgg203
 z76 := Tryz.sizeOf203
 v76 := Tryz.zeroValue203
 t77 := Tryz.underlying204
 a77 := Tryz.isAgg204
 z77 := Tryz.sizeOf204
 v77 := Tryz.zeroValue204 }
def Tryz.grow193_ren : Go.Shelf.Ren := ⟨fun | 4 => 193 | n => n,fun | 22 => 62 | 25 => 9 | 3 => 3 | 4 => 4 | 9 => 9 | 20 => 20 | 0 => 0 | n => n,fun | n => n⟩
theorem Tryz.grow193 : Go.Proofs.Lays8.n4 Tryz.prog Tryz.grow193_ren := {
 mixed := by kernel_rfl
 f4 := ⟨Tryz.f193.name,by decide,Tryz.func193.trans (congrArg some (by kernel_rfl))⟩
 t0 := Tryz.underlying0
 a0 := Tryz.isAgg0
 z0 := Tryz.sizeOf0
 v0 := Tryz.zeroValue0
 t3 := Tryz.underlying3
 a3 := Tryz.isAgg3
 z3 := Tryz.sizeOf3
 v3 := Tryz.zeroValue3
 t4 := Tryz.underlying4
 a4 := Tryz.isAgg4
 z4 := Tryz.sizeOf4
 v4 := Tryz.zeroValue4
 t9 := Tryz.underlying9
 a9 := Tryz.isAgg9
 z9 := Tryz.sizeOf9
 v9 := Tryz.zeroValue9
 t20 := Tryz.underlying20
 a20 := Tryz.isAgg20
 z20 := Tryz.sizeOf20
 v20 := Tryz.zeroValue20
 t22 := Tryz.underlying62
 a22 := Tryz.isAgg62
 z22 := Tryz.sizeOf62
 v22 := Tryz.zeroValue62 }
end Go.Proofs
