/- DERIVED: THE SHELF's CONTRACTS AT THIS DUMP,IN PLAIN WORDS (tools/lay-plain.mjs out of 'YtpefhfiehfkocaaGreatDoorShelf.lean',which tools/lay-shelf.mjs wrote): THE SAME DECLARATIONS UNDER THE SAME NA -/
import Derived.Shelf.SlSortCmp.WholeK
import Derived.Ground.SlsfProg
import Derived.Shelf.Spec.SlicesGrow
import Derived.Ground.Names7Prog
import Derived.Ground.NamesProg
import Derived.Shelf.Strings.Builder1
import Derived.Shelf.Strings.Builder2
import Derived.Shelf.Small.Utf8
import Derived.Shelf.Small.Bits
import Derived.Shelf.Small.Strs
import Derived.Shelf.Strconv.Atoi
import Derived.Shelf.Strconv.Itoa0
import Derived.Shelf.Strconv.Itoa1
import Derived.Shelf.LaysM
import Derived.Shelf.Strconv.Itoa2
import Derived.Shelf.Strconv.Itoa3
import Derived.Shelf.Strconv.AtoiErrFast
import Derived.Shelf.Strconv.ParseIntEmpty
import Derived.Shelf.Strconv.AtoiFail
import Derived.Shelf.Strconv.Clone
import Derived.Shelf.Strconv.SyntaxError
import Derived.Shelf.LaysC
import Derived.Shelf.Strconv.ToError
import Derived.Shelf.Strconv.Lower
import Derived.Shelf.Strconv.ParseUint10
import Derived.Shelf.Strconv.ParseUint10Empty
import Derived.Shelf.Strconv.ParseUint10Any
import Derived.Shelf.Strconv.ParseInt10
import Derived.Shelf.Strconv.AtoiLong
import Derived.Shelf.Strconv.AtoiInnerAll
import Derived.Shelf.Strconv.RangeError
import Derived.Shelf.Strconv.ToErrorRange
import Derived.Shelf.Strconv.AtoiAll
import Derived.Shelf.Strconv.ErrVarAll
import Derived.Shelf.Strings.Search1
import Derived.Shelf.Strings.Search2
import Derived.Shelf.Strings.Search3
import Derived.Shelf.Strings.Cut
import Derived.Shelf.Strings.Count
import Derived.Shelf.Strings.Shaped
import Derived.Shelf.Strings.Prefix
import Derived.Shelf.Strings.Split
import Derived.Shelf.Strings.SplitShaped
import Derived.Shelf.Unicode.Decode
import Derived.Shelf.Strings.Runes
import Derived.Shelf.Strings.RuneCount
import Derived.Shelf.Strings.AsciiSet
import Derived.Shelf.Strings.Explode
import Derived.Shelf.Unicode.DecodeSlow
import Derived.Shelf.Slices.CompactS
import Derived.Ground.Names2Prog
import Derived.Shelf.Slices.SearchI
import Derived.Shelf.Slices.Cells
import Derived.Ground.SlgnProg
import Derived.Shelf.SlicesE.Clone
import Derived.Test.YtpefhfiehfkocaaGreatDoorProg
namespace Go.Proofs
open Go.Shelf
def Tryz.lays125_ren:Go.Shelf.Ren:=⟨fun | 125=>57 | 128=>105 | 129=>106 | n=>n,fun | 46=>130 | 3=>3 | 51=>205 | 53=>207 | 4=>4 | 5=>5 | 9=>9 | n=>n,fun | n=>n⟩
theorem Tryz.lays125:Go.Proofs.Lays.n125 Tryz.prog Tryz.lays125_ren:={
 mixed:=by kernel_rfl
 f125:=Tryz.func57.trans (congrArg some (by kernel_rfl))
 f128:=Tryz.func105.trans (congrArg some (by kernel_rfl))
 f129:=Tryz.func106.trans (congrArg some (by kernel_rfl))
 t3:=Tryz.underlying3
 a3:=Tryz.isAgg3
 z3:=Tryz.sizeOf3
 v3:=Tryz.zeroValue3
 t4:=Tryz.underlying4
 a4:=Tryz.isAgg4
 z4:=Tryz.sizeOf4
 v4:=Tryz.zeroValue4
 t5:=Tryz.underlying5
 a5:=Tryz.isAgg5
 z5:=Tryz.sizeOf5
 v5:=Tryz.zeroValue5
 t9:=Tryz.underlying9
 a9:=Tryz.isAgg9
 z9:=Tryz.sizeOf9
 v9:=Tryz.zeroValue9
 t46:=Tryz.underlying130
 a46:=Tryz.isAgg130
 z46:=Tryz.sizeOf130
 v46:=Tryz.zeroValue130
 t51:=Tryz.underlying205
 a51:=Tryz.isAgg205
 z51:=Tryz.sizeOf205
 v51:=Tryz.zeroValue205
 t53:=Tryz.underlying207
 a53:=Tryz.isAgg207
 z53:=Tryz.sizeOf207
 v53:=Tryz.zeroValue207 }
theorem Tryz.bits_Len(x:Int)(w:World)(h0:0≤x)(h1:x≤18446744073709551615) :
  Calls Tryz.prog 57 #[.int .u64 x] w fun e w'=>e=.returned (.int .i64 (Lib.bitLen x.toNat))∧w'=w:=Any.bits_Len Tryz.lays125 x w h0 h1
def Tryz.lays106_ren:Go.Shelf.Ren:=⟨fun | 106=>125 | 213=>198 | 265=>285 | n=>n,fun | 9=>9 | 3=>3 | n=>n,fun | n=>n⟩
theorem Tryz.lays106:Go.Proofs.Lays.n106 Tryz.prog Tryz.lays106_ren:={
 mixed:=by kernel_rfl
 f106:=Tryz.func125.trans (congrArg some (by kernel_rfl))
 f213:=Tryz.func198.trans (congrArg some (by kernel_rfl))
 f265:=Tryz.func285.trans (congrArg some (by kernel_rfl))
 t3:=Tryz.underlying3
 a3:=Tryz.isAgg3
 z3:=Tryz.sizeOf3
 v3:=Tryz.zeroValue3
 t9:=Tryz.underlying9
 a9:=Tryz.isAgg9
 z9:=Tryz.sizeOf9
 v9:=Tryz.zeroValue9 }
open Go.RowKit in
theorem Tryz.strings_Compare(a b:ByteArray)(w:World) :
  Calls Tryz.prog 125 #[.string a,.string b] w fun e w'=>e=.returned (.int .i64 (Lib.compareBytes a.data.toList b.data.toList))∧w'=w:=Any.strings_Compare Tryz.lays106 a b w
def Tryz.laysM316_ren:Go.Shelf.Ren:=⟨fun | 316=>301 | n=>n,fun | 9=>9 | 3=>3 | 4=>4 | 37=>403 | 0=>0 | 127=>513 | 5=>5 | n=>n,fun | n=>n⟩
theorem Tryz.laysM316:Go.Proofs.LaysM.n316 Tryz.prog Tryz.laysM316_ren:={
 mixed:=by kernel_rfl
 f316:=Tryz.func301.trans (congrArg some (by kernel_rfl))
 t0:=Tryz.underlying0
 a0:=Tryz.isAgg0
 z0:=Tryz.sizeOf0
 v0:=Tryz.zeroValue0
 t3:=Tryz.underlying3
 a3:=Tryz.isAgg3
 z3:=Tryz.sizeOf3
 v3:=Tryz.zeroValue3
 t4:=Tryz.underlying4
 a4:=Tryz.isAgg4
 z4:=Tryz.sizeOf4
 v4:=Tryz.zeroValue4
 t9:=Tryz.underlying9
 a9:=Tryz.isAgg9
 z9:=Tryz.sizeOf9
 v9:=Tryz.zeroValue9
 t37:=Tryz.underlying403
 a37:=Tryz.isAgg403
 z37:=Tryz.sizeOf403
 v37:=Tryz.zeroValue403
 t127:=Tryz.underlying513
 a127:=Tryz.isAgg513
 z127:=Tryz.sizeOf513
 v127:=Tryz.zeroValue513
 t5:=Tryz.underlying5
 a5:=Tryz.isAgg5
 z5:=Tryz.sizeOf5
 v5:=Tryz.zeroValue5
 i0:=by kernel_rfl
 i3:=by kernel_rfl
 i4:=by kernel_rfl
 i5:=by kernel_rfl
 i9:=by kernel_rfl
 i37:=by kernel_rfl
 i127:=by kernel_rfl }
open Go.RowKit in
theorem Tryz.stringslite_Clone(s:ByteArray)(w:World)(hlim:s.size≤281474976710656) :
  Calls Tryz.prog 301 #[.string s] w fun e w'=>e=.returned (.string s)∧Below w.heap.size w w':=Any.stringslite_Clone Tryz.laysM316 s w hlim
def Tryz.lays144_ren:Go.Shelf.Ren:=⟨fun | 144=>87 | 143=>160 | 219=>231 | 217=>316 | 225=>317 | 224=>318 | 267=>319 | 266=>398 | 314=>399 | n=>n,fun | 9=>9 | 4=>4 | 3=>3 | 5=>5 | 46=>130 | 146=>583 | 51=>205 | n=>n,fun | 1=>0 | n=>n⟩
theorem Tryz.lays144:Go.Proofs.Lays.n144 Tryz.prog Tryz.lays144_ren:={
 mixed:=by kernel_rfl
 f143:=Tryz.func160.trans (congrArg some (by kernel_rfl))
 f144:=Tryz.func87.trans (congrArg some (by kernel_rfl))
 f217:=Tryz.func316.trans (congrArg some (by kernel_rfl))
 f219:=Tryz.func231.trans (congrArg some (by kernel_rfl))
 f224:=Tryz.func318.trans (congrArg some (by kernel_rfl))
 f225:=Tryz.func317.trans (congrArg some (by kernel_rfl))
 f266:=Tryz.func398.trans (congrArg some (by kernel_rfl))
 f267:=Tryz.func319.trans (congrArg some (by kernel_rfl))
 f314:=Tryz.func399.trans (congrArg some (by kernel_rfl))
 t3:=Tryz.underlying3
 a3:=Tryz.isAgg3
 z3:=Tryz.sizeOf3
 v3:=Tryz.zeroValue3
 t4:=Tryz.underlying4
 a4:=Tryz.isAgg4
 z4:=Tryz.sizeOf4
 v4:=Tryz.zeroValue4
 t5:=Tryz.underlying5
 a5:=Tryz.isAgg5
 z5:=Tryz.sizeOf5
 v5:=Tryz.zeroValue5
 t9:=Tryz.underlying9
 a9:=Tryz.isAgg9
 z9:=Tryz.sizeOf9
 v9:=Tryz.zeroValue9
 t46:=Tryz.underlying130
 a46:=Tryz.isAgg130
 z46:=Tryz.sizeOf130
 v46:=Tryz.zeroValue130
 t51:=Tryz.underlying205
 a51:=Tryz.isAgg205
 z51:=Tryz.sizeOf205
 v51:=Tryz.zeroValue205
 t146:=Tryz.underlying583
 a146:=Tryz.isAgg583
 z146:=Tryz.sizeOf583
 v146:=Tryz.zeroValue583
 g1:=by kernel_rfl }
open Go.RowKit Go.Lib in
theorem Tryz.strings_Contains(s sub:ByteArray)(m:Int)(w:World)(hs:s.size<4294967281)(hm:w.cell? ⟨0,0,none⟩=some (.int .i64 m)) :
  Calls Tryz.prog 87 #[.string s,.string sub] w fun e w'=>e=.returned (.bool (Lib.contains s.data.toList sub.data.toList))∧w'=w:=Any.strings_Contains Tryz.lays144 s sub m w hs hm
def Tryz.lays138_ren:Go.Shelf.Ren:=⟨fun | 138=>153 | 195=>222 | 218=>223 | 143=>160 | 219=>231 | 217=>316 | 225=>317 | 224=>318 | 267=>319 | 266=>398 | 314=>399 | n=>n,fun | 9=>9 | 3=>3 | 4=>4 | 5=>5 | 0=>0 | 46=>130 | 146=>583 | 51=>205 | n=>n,fun | 1=>0 | n=>n⟩
theorem Tryz.lays138:Go.Proofs.Lays.n138 Tryz.prog Tryz.lays138_ren:={
 mixed:=by kernel_rfl
 f138:=Tryz.func153.trans (congrArg some (by kernel_rfl))
 f143:=Tryz.func160.trans (congrArg some (by kernel_rfl))
 f195:=Tryz.func222.trans (congrArg some (by kernel_rfl))
 f217:=Tryz.func316.trans (congrArg some (by kernel_rfl))
 f218:=Tryz.func223.trans (congrArg some (by kernel_rfl))
 f219:=Tryz.func231.trans (congrArg some (by kernel_rfl))
 f224:=Tryz.func318.trans (congrArg some (by kernel_rfl))
 f225:=Tryz.func317.trans (congrArg some (by kernel_rfl))
 f266:=Tryz.func398.trans (congrArg some (by kernel_rfl))
 f267:=Tryz.func319.trans (congrArg some (by kernel_rfl))
 f314:=Tryz.func399.trans (congrArg some (by kernel_rfl))
 t0:=Tryz.underlying0
 a0:=Tryz.isAgg0
 z0:=Tryz.sizeOf0
 v0:=Tryz.zeroValue0
 t3:=Tryz.underlying3
 a3:=Tryz.isAgg3
 z3:=Tryz.sizeOf3
 v3:=Tryz.zeroValue3
 t4:=Tryz.underlying4
 a4:=Tryz.isAgg4
 z4:=Tryz.sizeOf4
 v4:=Tryz.zeroValue4
 t5:=Tryz.underlying5
 a5:=Tryz.isAgg5
 z5:=Tryz.sizeOf5
 v5:=Tryz.zeroValue5
 t9:=Tryz.underlying9
 a9:=Tryz.isAgg9
 z9:=Tryz.sizeOf9
 v9:=Tryz.zeroValue9
 t46:=Tryz.underlying130
 a46:=Tryz.isAgg130
 z46:=Tryz.sizeOf130
 v46:=Tryz.zeroValue130
 t51:=Tryz.underlying205
 a51:=Tryz.isAgg205
 z51:=Tryz.sizeOf205
 v51:=Tryz.zeroValue205
 t146:=Tryz.underlying583
 a146:=Tryz.isAgg583
 z146:=Tryz.sizeOf583
 v146:=Tryz.zeroValue583
 g1:=by kernel_rfl }
open Go.RowKit Go.Lib in
theorem Tryz.strings_Count_one(s:ByteArray)(c:UInt8)(w:World) :
  Calls Tryz.prog 153 #[.string s,.string ⟨#[c]⟩] w fun e w'=>e=.returned (.int .i64 (Lib.countByte s.data.toList c))∧w'=w:=Any.strings_Count_one Tryz.lays138 s c w
def Tryz.lays206_ren:Go.Shelf.Ren:=⟨fun | 206=>183 | n=>n,fun | 9=>9 | 4=>4 | 3=>3 | n=>n,fun | n=>n⟩
theorem Tryz.lays206:Go.Proofs.Lays.n206 Tryz.prog Tryz.lays206_ren:={
 mixed:=by kernel_rfl
 f206:=Tryz.func183.trans (congrArg some (by kernel_rfl))
 t3:=Tryz.underlying3
 a3:=Tryz.isAgg3
 z3:=Tryz.sizeOf3
 v3:=Tryz.zeroValue3
 t4:=Tryz.underlying4
 a4:=Tryz.isAgg4
 z4:=Tryz.sizeOf4
 v4:=Tryz.zeroValue4
 t9:=Tryz.underlying9
 a9:=Tryz.isAgg9
 z9:=Tryz.sizeOf9
 v9:=Tryz.zeroValue9 }
open Go.RowKit Go.Lib in
theorem Tryz.stringslite_HasPrefix(s p:ByteArray)(w:World) :
  Calls Tryz.prog 183 #[.string s,.string p] w fun e w'=>e=.returned (.bool (Lib.hasPrefix s.data.toList p.data.toList))∧w'=w:=Any.stringslite_HasPrefix Tryz.lays206 s p w
def Tryz.lays146_ren:Go.Shelf.Ren:=⟨fun | 146=>92 | 221=>161 | 268=>232 | 138=>153 | 143=>160 | 195=>222 | 197=>320 | 218=>223 | 219=>231 | 260=>400 | 217=>316 | 225=>317 | 224=>318 | 267=>319 | 266=>398 | 314=>399 | n=>n,fun | 9=>9 | 31=>48 | 3=>3 | 4=>4 | 0=>0 | 105=>479 | 21=>21 | 5=>5 | 46=>130 | 119=>642 | 139=>645 | 138=>644 | 146=>583 | 51=>205 | n=>n,fun | 1=>0 | 3=>1 | 4=>2 | n=>n⟩
theorem Tryz.lays146:Go.Proofs.Lays.n146 Tryz.prog Tryz.lays146_ren:={
 mixed:=by kernel_rfl
 f138:=Tryz.func153.trans (congrArg some (by kernel_rfl))
 f143:=Tryz.func160.trans (congrArg some (by kernel_rfl))
 f146:=Tryz.func92.trans (congrArg some (by kernel_rfl))
 f195:=Tryz.func222.trans (congrArg some (by kernel_rfl))
 f197:=Tryz.func320.trans (congrArg some (by kernel_rfl))
 f217:=Tryz.func316.trans (congrArg some (by kernel_rfl))
 f218:=Tryz.func223.trans (congrArg some (by kernel_rfl))
 f219:=Tryz.func231.trans (congrArg some (by kernel_rfl))
 f221:=Tryz.func161.trans (congrArg some (by kernel_rfl))
 f224:=Tryz.func318.trans (congrArg some (by kernel_rfl))
 f225:=Tryz.func317.trans (congrArg some (by kernel_rfl))
 f260:=Tryz.func400.trans (congrArg some (by kernel_rfl))
 f266:=Tryz.func398.trans (congrArg some (by kernel_rfl))
 f267:=Tryz.func319.trans (congrArg some (by kernel_rfl))
 f268:=Tryz.func232.trans (congrArg some (by kernel_rfl))
 f314:=Tryz.func399.trans (congrArg some (by kernel_rfl))
 t0:=Tryz.underlying0
 a0:=Tryz.isAgg0
 z0:=Tryz.sizeOf0
 v0:=Tryz.zeroValue0
 t3:=Tryz.underlying3
 a3:=Tryz.isAgg3
 z3:=Tryz.sizeOf3
 v3:=Tryz.zeroValue3
 t4:=Tryz.underlying4
 a4:=Tryz.isAgg4
 z4:=Tryz.sizeOf4
 v4:=Tryz.zeroValue4
 t5:=Tryz.underlying5
 a5:=Tryz.isAgg5
 z5:=Tryz.sizeOf5
 v5:=Tryz.zeroValue5
 t9:=Tryz.underlying9
 a9:=Tryz.isAgg9
 z9:=Tryz.sizeOf9
 v9:=Tryz.zeroValue9
 t21:=Tryz.underlying21
 a21:=Tryz.isAgg21
 z21:=Tryz.sizeOf21
 v21:=Tryz.zeroValue21
 t31:=Tryz.underlying48
 a31:=Tryz.isAgg48
 z31:=Tryz.sizeOf48
 v31:=Tryz.zeroValue48
 t46:=Tryz.underlying130
 a46:=Tryz.isAgg130
 z46:=Tryz.sizeOf130
 v46:=Tryz.zeroValue130
 t51:=Tryz.underlying205
 a51:=Tryz.isAgg205
 z51:=Tryz.sizeOf205
 v51:=Tryz.zeroValue205
 t105:=Tryz.underlying479
 a105:=Tryz.isAgg479
 z105:=Tryz.sizeOf479
 v105:=Tryz.zeroValue479
 t119:=Tryz.underlying642
 a119:=Tryz.isAgg642
 z119:=Tryz.sizeOf642
 t138:=Tryz.underlying644
 a138:=Tryz.isAgg644
 z138:=Tryz.sizeOf644
 v138:=Tryz.zeroValue644
 t139:=Tryz.underlying645
 a139:=Tryz.isAgg645
 z139:=Tryz.sizeOf645
 v139:=Tryz.zeroValue645
 t146:=Tryz.underlying583
 a146:=Tryz.isAgg583
 z146:=Tryz.sizeOf583
 v146:=Tryz.zeroValue583
 g1:=by kernel_rfl
 g3:=by kernel_rfl
 g4:=by kernel_rfl }
open Go.RowKit Go.Lib in
theorem Tryz.strings_Split(s sep:ByteArray)(m:Int)(w:World)(hs:s.size<4294967281)(hm:w.cell? ⟨0,0,none⟩=some (.int .i64 m))(h1:1≤sep.size) :
  Calls Tryz.prog 92 #[.string s,.string sep] w fun e w'=>
   e=.returned (.slice (some ⟨w.heap.size,0,none⟩) (Lib.countB s sep+1) (Lib.countB s sep+1))∧w'=w.alloc (.cells ((Lib.splitB sep 0 (Lib.countB s sep) s).map Value.string).toArray 9):=Any.strings_Split Tryz.lays146 (by kernel_rfl) s sep m w hs hm h1
def Tryz.laysNm237_ren:Go.Shelf.Ren:=⟨fun | 37=>300 | n=>n,fun | 3=>3 | 4=>4 | n=>n,fun | n=>n⟩
theorem Tryz.laysNm237:Go.Proofs.Lays2.n37 Tryz.prog Tryz.laysNm237_ren:={
 mixed:=by kernel_rfl
 f37:=Tryz.func300.trans (congrArg some (by kernel_rfl))
 t3:=Tryz.underlying3
 a3:=Tryz.isAgg3
 z3:=Tryz.sizeOf3
 v3:=Tryz.zeroValue3
 t4:=Tryz.underlying4
 a4:=Tryz.isAgg4
 z4:=Tryz.sizeOf4
 v4:=Tryz.zeroValue4 }
open Go.RowKit Go.Lib in
theorem Tryz.cmp_isNaN_int2(x:Int)(w:World) :
  Calls Tryz.prog 300 #[.int .i64 x] w fun e w'=>e=.returned (.bool false)∧w'=w:=Any.cmp_isNaN_int2 Tryz.laysNm237 x w
def Tryz.pdqFile_ren:Go.Shelf.Ren:=⟨fun | 14=>56 | 20=>97 | 21=>98 | 22=>99 | 23=>100 | 24=>101 | 25=>102 | 26=>103 | 27=>104 | 46=>166 | 47=>167 | 48=>168 | 49=>169 | 50=>170 | 15=>57 | 57=>234 | 28=>105 | 29=>106 | n=>n,fun | 24=>66 | 22=>53 | 3=>3 | 25=>86 | 4=>4 | 0=>0 | 46=>199 | 45=>198 | 50=>30 | 66=>281 | 39=>130 | 55=>207 | 70=>285 | 76=>364 | 77=>365 | 53=>205 | 5=>5 | 9=>9 | n=>n,fun | n=>n⟩
theorem Tryz.pdqFile:Go.Proofs.SlLaysF0.n14 Tryz.prog Tryz.pdqFile_ren:={
 mixed:=by kernel_rfl
 f14:=⟨Tryz.f56.name,by decide,Tryz.func56.trans (congrArg some (by kernel_rfl))⟩
 f15:=Tryz.func57.trans (congrArg some (by kernel_rfl))
 f20:=⟨Tryz.f97.name,by decide,Tryz.func97.trans (congrArg some (by kernel_rfl))⟩
 f21:=⟨Tryz.f98.name,by decide,Tryz.func98.trans (congrArg some (by kernel_rfl))⟩
 f22:=⟨Tryz.f99.name,by decide,Tryz.func99.trans (congrArg some (by kernel_rfl))⟩
 f23:=⟨Tryz.f100.name,by decide,Tryz.func100.trans (congrArg some (by kernel_rfl))⟩
 f24:=⟨Tryz.f101.name,by decide,Tryz.func101.trans (congrArg some (by kernel_rfl))⟩
 f25:=⟨Tryz.f102.name,by decide,Tryz.func102.trans (congrArg some (by kernel_rfl))⟩
 f26:=⟨Tryz.f103.name,by decide,Tryz.func103.trans (congrArg some (by kernel_rfl))⟩
 f27:=⟨Tryz.f104.name,by decide,Tryz.func104.trans (congrArg some (by kernel_rfl))⟩
 f28:=Tryz.func105.trans (congrArg some (by kernel_rfl))
 f29:=Tryz.func106.trans (congrArg some (by kernel_rfl))
 f46:=⟨Tryz.f166.name,by decide,Tryz.func166.trans (congrArg some (by kernel_rfl))⟩
 f47:=Tryz.func167.trans (congrArg some (by kernel_rfl))
 f48:=Tryz.func168.trans (congrArg some (by kernel_rfl))
 f49:=⟨Tryz.f169.name,by decide,Tryz.func169.trans (congrArg some (by kernel_rfl))⟩
 f50:=⟨Tryz.f170.name,by decide,Tryz.func170.trans (congrArg some (by kernel_rfl))⟩
 f57:=⟨Tryz.f234.name,by decide,Tryz.func234.trans (congrArg some (by kernel_rfl))⟩
 t0:=Tryz.underlying0
 a0:=Tryz.isAgg0
 z0:=Tryz.sizeOf0
 v0:=Tryz.zeroValue0
 t3:=Tryz.underlying3
 a3:=Tryz.isAgg3
 z3:=Tryz.sizeOf3
 v3:=Tryz.zeroValue3
 t4:=Tryz.underlying4
 a4:=Tryz.isAgg4
 z4:=Tryz.sizeOf4
 v4:=Tryz.zeroValue4
 t5:=Tryz.underlying5
 a5:=Tryz.isAgg5
 z5:=Tryz.sizeOf5
 v5:=Tryz.zeroValue5
 t9:=Tryz.underlying9
 a9:=Tryz.isAgg9
 z9:=Tryz.sizeOf9
 v9:=Tryz.zeroValue9
 t22:=Tryz.underlying53
 a22:=Tryz.isAgg53
 z22:=Tryz.sizeOf53
 v22:=Tryz.zeroValue53
 t25:=Tryz.underlying86
 a25:=Tryz.isAgg86
 z25:=Tryz.sizeOf86
 v25:=Tryz.zeroValue86
 t39:=Tryz.underlying130
 a39:=Tryz.isAgg130
 z39:=Tryz.sizeOf130
 v39:=Tryz.zeroValue130
 t45:=Tryz.underlying198
 a45:=Tryz.isAgg198
 z45:=Tryz.sizeOf198
 v45:=Tryz.zeroValue198
 t46:=Tryz.underlying199
 a46:=Tryz.isAgg199
 z46:=Tryz.sizeOf199
 v46:=Tryz.zeroValue199
 t50:=Tryz.underlying30
 a50:=Tryz.isAgg30
 z50:=Tryz.sizeOf30
 v50:=Tryz.zeroValue30
 t53:=Tryz.underlying205
 a53:=Tryz.isAgg205
 z53:=Tryz.sizeOf205
 v53:=Tryz.zeroValue205
 t55:=Tryz.underlying207
 a55:=Tryz.isAgg207
 z55:=Tryz.sizeOf207
 v55:=Tryz.zeroValue207
 t66:=Tryz.underlying281
 a66:=Tryz.isAgg281
 z66:=Tryz.sizeOf281
 v66:=Tryz.zeroValue281
 t70:=Tryz.underlying285
 a70:=Tryz.isAgg285
 z70:=Tryz.sizeOf285
 v70:=Tryz.zeroValue285
 t76:=Tryz.underlying364
 a76:=Tryz.isAgg364
 z76:=Tryz.sizeOf364
 v76:=Tryz.zeroValue364
 t77:=Tryz.underlying365
 a77:=Tryz.isAgg365
 z77:=Tryz.sizeOf365
 v77:=Tryz.zeroValue365 }
def Tryz.sortSpan_ren:Go.Shelf.Ren:=⟨fun | 6=>314 | 15=>57 | 14=>397 | 28=>105 | 29=>106 | 20=>450 | 21=>451 | 22=>452 | 23=>453 | 24=>454 | 25=>455 | 26=>456 | 27=>457 | 46=>514 | 47=>167 | 48=>168 | 49=>515 | 50=>516 | 57=>555 | n=>n,fun | 22=>22 | 24=>58 | 25=>477 | 3=>3 | 39=>130 | 0=>0 | 53=>205 | 55=>207 | 4=>4 | 46=>199 | 45=>198 | 50=>30 | 5=>5 | 9=>9 | 66=>281 | 70=>285 | 76=>364 | 77=>365 | n=>n,fun | n=>n⟩
theorem Tryz.sortSpan:Go.Proofs.SlLaysF0.n6 Tryz.prog Tryz.sortSpan_ren:={
 mixed:=by kernel_rfl
 f6:=⟨Tryz.f314.name,by decide,Tryz.func314.trans (congrArg some (by kernel_rfl))⟩
 f14:=⟨Tryz.f397.name,by decide,Tryz.func397.trans (congrArg some (by kernel_rfl))⟩
 f15:=Tryz.func57.trans (congrArg some (by kernel_rfl))
 f20:=⟨Tryz.f450.name,by decide,Tryz.func450.trans (congrArg some (by kernel_rfl))⟩
 f21:=⟨Tryz.f451.name,by decide,Tryz.func451.trans (congrArg some (by kernel_rfl))⟩
 f22:=⟨Tryz.f452.name,by decide,Tryz.func452.trans (congrArg some (by kernel_rfl))⟩
 f23:=⟨Tryz.f453.name,by decide,Tryz.func453.trans (congrArg some (by kernel_rfl))⟩
 f24:=⟨Tryz.f454.name,by decide,Tryz.func454.trans (congrArg some (by kernel_rfl))⟩
 f25:=⟨Tryz.f455.name,by decide,Tryz.func455.trans (congrArg some (by kernel_rfl))⟩
 f26:=⟨Tryz.f456.name,by decide,Tryz.func456.trans (congrArg some (by kernel_rfl))⟩
 f27:=⟨Tryz.f457.name,by decide,Tryz.func457.trans (congrArg some (by kernel_rfl))⟩
 f28:=Tryz.func105.trans (congrArg some (by kernel_rfl))
 f29:=Tryz.func106.trans (congrArg some (by kernel_rfl))
 f46:=⟨Tryz.f514.name,by decide,Tryz.func514.trans (congrArg some (by kernel_rfl))⟩
 f47:=Tryz.func167.trans (congrArg some (by kernel_rfl))
 f48:=Tryz.func168.trans (congrArg some (by kernel_rfl))
 f49:=⟨Tryz.f515.name,by decide,Tryz.func515.trans (congrArg some (by kernel_rfl))⟩
 f50:=⟨Tryz.f516.name,by decide,Tryz.func516.trans (congrArg some (by kernel_rfl))⟩
 f57:=⟨Tryz.f555.name,by decide,Tryz.func555.trans (congrArg some (by kernel_rfl))⟩
 t0:=Tryz.underlying0
 a0:=Tryz.isAgg0
 z0:=Tryz.sizeOf0
 v0:=Tryz.zeroValue0
 t3:=Tryz.underlying3
 a3:=Tryz.isAgg3
 z3:=Tryz.sizeOf3
 v3:=Tryz.zeroValue3
 t4:=Tryz.underlying4
 a4:=Tryz.isAgg4
 z4:=Tryz.sizeOf4
 v4:=Tryz.zeroValue4
 t5:=Tryz.underlying5
 a5:=Tryz.isAgg5
 z5:=Tryz.sizeOf5
 v5:=Tryz.zeroValue5
 t9:=Tryz.underlying9
 a9:=Tryz.isAgg9
 z9:=Tryz.sizeOf9
 v9:=Tryz.zeroValue9
 t22:=Tryz.underlying22
 a22:=Tryz.isAgg22
 z22:=Tryz.sizeOf22
 v22:=Tryz.zeroValue22
 t25:=Tryz.underlying477
 a25:=Tryz.isAgg477
 z25:=Tryz.sizeOf477
 v25:=Tryz.zeroValue477
 t39:=Tryz.underlying130
 a39:=Tryz.isAgg130
 z39:=Tryz.sizeOf130
 v39:=Tryz.zeroValue130
 t45:=Tryz.underlying198
 a45:=Tryz.isAgg198
 z45:=Tryz.sizeOf198
 v45:=Tryz.zeroValue198
 t46:=Tryz.underlying199
 a46:=Tryz.isAgg199
 z46:=Tryz.sizeOf199
 v46:=Tryz.zeroValue199
 t50:=Tryz.underlying30
 a50:=Tryz.isAgg30
 z50:=Tryz.sizeOf30
 v50:=Tryz.zeroValue30
 t53:=Tryz.underlying205
 a53:=Tryz.isAgg205
 z53:=Tryz.sizeOf205
 v53:=Tryz.zeroValue205
 t55:=Tryz.underlying207
 a55:=Tryz.isAgg207
 z55:=Tryz.sizeOf207
 v55:=Tryz.zeroValue207
 t66:=Tryz.underlying281
 a66:=Tryz.isAgg281
 z66:=Tryz.sizeOf281
 v66:=Tryz.zeroValue281
 t70:=Tryz.underlying285
 a70:=Tryz.isAgg285
 z70:=Tryz.sizeOf285
 v70:=Tryz.zeroValue285
 t76:=Tryz.underlying364
 a76:=Tryz.isAgg364
 z76:=Tryz.sizeOf364
 v76:=Tryz.zeroValue364
 t77:=Tryz.underlying365
 a77:=Tryz.isAgg365
 z77:=Tryz.sizeOf365
 v77:=Tryz.zeroValue365 }
def Tryz.grow123_ren:Go.Shelf.Ren:=⟨fun | 4=>123 | n=>n,fun | 22=>48 | 25=>9 | 3=>3 | 4=>4 | 9=>9 | 20=>20 | 0=>0 | n=>n,fun | n=>n⟩
theorem Tryz.grow123:Go.Proofs.Lays8.n4 Tryz.prog Tryz.grow123_ren:={
 mixed:=by kernel_rfl
 f4:=⟨Tryz.f123.name,by decide,Tryz.func123.trans (congrArg some (by kernel_rfl))⟩
 t0:=Tryz.underlying0
 a0:=Tryz.isAgg0
 z0:=Tryz.sizeOf0
 v0:=Tryz.zeroValue0
 t3:=Tryz.underlying3
 a3:=Tryz.isAgg3
 z3:=Tryz.sizeOf3
 v3:=Tryz.zeroValue3
 t4:=Tryz.underlying4
 a4:=Tryz.isAgg4
 z4:=Tryz.sizeOf4
 v4:=Tryz.zeroValue4
 t9:=Tryz.underlying9
 a9:=Tryz.isAgg9
 z9:=Tryz.sizeOf9
 v9:=Tryz.zeroValue9
 t20:=Tryz.underlying20
 a20:=Tryz.isAgg20
 z20:=Tryz.sizeOf20
 v20:=Tryz.zeroValue20
 t22:=Tryz.underlying48
 a22:=Tryz.isAgg48
 z22:=Tryz.sizeOf48
 v22:=Tryz.zeroValue48 }
def Tryz.grow396_ren:Go.Shelf.Ren:=⟨fun | 4=>396 | n=>n,fun | 22=>23 | 25=>58 | 3=>3 | 4=>4 | 9=>9 | 20=>20 | 0=>0 | n=>n,fun | n=>n⟩
theorem Tryz.grow396:Go.Proofs.Lays8.n4 Tryz.prog Tryz.grow396_ren:={
 mixed:=by kernel_rfl
 f4:=⟨Tryz.f396.name,by decide,Tryz.func396.trans (congrArg some (by kernel_rfl))⟩
 t0:=Tryz.underlying0
 a0:=Tryz.isAgg0
 z0:=Tryz.sizeOf0
 v0:=Tryz.zeroValue0
 t3:=Tryz.underlying3
 a3:=Tryz.isAgg3
 z3:=Tryz.sizeOf3
 v3:=Tryz.zeroValue3
 t4:=Tryz.underlying4
 a4:=Tryz.isAgg4
 z4:=Tryz.sizeOf4
 v4:=Tryz.zeroValue4
 t9:=Tryz.underlying9
 a9:=Tryz.isAgg9
 z9:=Tryz.sizeOf9
 v9:=Tryz.zeroValue9
 t20:=Tryz.underlying20
 a20:=Tryz.isAgg20
 z20:=Tryz.sizeOf20
 v20:=Tryz.zeroValue20
 t22:=Tryz.underlying23
 a22:=Tryz.isAgg23
 z22:=Tryz.sizeOf23
 v22:=Tryz.zeroValue23 }
end Go.Proofs
