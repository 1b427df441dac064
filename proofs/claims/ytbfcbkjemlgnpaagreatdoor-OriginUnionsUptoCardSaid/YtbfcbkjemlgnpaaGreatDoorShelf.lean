/- DERIVED: THE SHELF's CONTRACTS AT THIS DUMP,IN PLAIN WORDS (tools/lay-plain.mjs out of 'YtbfcbkjemlgnpaaGreatDoorShelf.lean',which tools/lay-shelf.mjs wrote): THE SAME DECLARATIONS UNDER THE SAME NA -/
import Derived.Shelf.SlSortCmp.WholeK
import Derived.Ground.SlsfProg
import Derived.Shelf.Spec.SlicesGrow
import Derived.Ground.Names7Prog
import Derived.Ground.NamesProg
import Derived.Shelf.Strings.Builder1
import Derived.Shelf.Strings.Builder2
import Derived.Shelf.Strings.OnBuilder
import Derived.Shelf.Small.Utf8
import Derived.Shelf.Small.Bits
import Derived.Shelf.Small.Strs
import Derived.Shelf.Strconv.Atoi
import Derived.Shelf.Strconv.Itoa0
import Derived.Shelf.Strconv.Itoa1
import Derived.Shelf.LaysM
import Derived.Shelf.Strconv.Itoa2
import Derived.Shelf.Strconv.Itoa3
import Derived.Shelf.Strconv.AtoiErrFast
import Derived.Shelf.Strconv.ParseIntEmpty
import Derived.Shelf.Strconv.AtoiFail
import Derived.Shelf.Strconv.Clone
import Derived.Shelf.Strconv.SyntaxError
import Derived.Shelf.LaysC
import Derived.Shelf.Strconv.ToError
import Derived.Shelf.Strconv.Lower
import Derived.Shelf.Strconv.ParseUint10
import Derived.Shelf.Strconv.ParseUint10Empty
import Derived.Shelf.Strconv.ParseUint10Any
import Derived.Shelf.Strconv.ParseInt10
import Derived.Shelf.Strconv.AtoiLong
import Derived.Shelf.Strconv.AtoiInnerAll
import Derived.Shelf.Strconv.RangeError
import Derived.Shelf.Strconv.ToErrorRange
import Derived.Shelf.Strconv.AtoiAll
import Derived.Shelf.Strconv.ErrVarAll
import Derived.Shelf.Strings.Search1
import Derived.Shelf.Strings.Search2
import Derived.Shelf.Strings.Search3
import Derived.Shelf.Strings.Cut
import Derived.Shelf.Strings.Count
import Derived.Shelf.Strings.Shaped
import Derived.Shelf.Sort.Plain
import Derived.Shelf.Strings.Prefix
import Derived.Shelf.Strings.Split
import Derived.Shelf.Strings.SplitShaped
import Derived.Shelf.Unicode.Decode
import Derived.Shelf.Strings.Runes
import Derived.Shelf.Strings.RuneCount
import Derived.Shelf.Strings.AsciiSet
import Derived.Shelf.Strings.Explode
import Derived.Shelf.Unicode.DecodeSlow
import Derived.Shelf.Slices.CompactS
import Derived.Ground.Names2Prog
import Derived.Shelf.Slices.SearchI
import Derived.Shelf.Slices.Cells
import Derived.Shelf.Slices.In.SortNone
import Derived.Ground.SlgnProg
import Derived.Shelf.SlicesE.Clone
import Derived.Test.YtbfcbkjemlgnpaaGreatDoorProg
namespace Go.Proofs
open Go.Shelf
def Tryz.lays156_ren:Go.Shelf.Ren:=⟨fun | 156=>376 | 165=>459 | 166=>299 | 169=>201 | 240=>393 | 241=>513 | 276=>466 | 277=>555 | n=>n,fun | 31=>81 | 9=>9 | 3=>3 | 4=>4 | 0=>0 | 20=>20 | 72=>329 | 76=>300 | 70=>326 | 37=>327 | 75=>299 | 127=>432 | 164=>603 | 5=>5 | 80=>193 | n=>n,fun | n=>n⟩
theorem Tryz.lays156:Go.Proofs.Lays.n156 Tryz.prog Tryz.lays156_ren:={
 mixed:=by kernel_rfl
 f156:=Tryz.func376.trans (congrArg some (by kernel_rfl))
 f165:=Tryz.func459.trans (congrArg some (by kernel_rfl))
 f166:=Tryz.func299.trans (congrArg some (by kernel_rfl))
 f169:=Tryz.func201.trans (congrArg some (by kernel_rfl))
 f240:=Tryz.func393.trans (congrArg some (by kernel_rfl))
 f241:=Tryz.func513.trans (congrArg some (by kernel_rfl))
 f276:=Tryz.func466.trans (congrArg some (by kernel_rfl))
 f277:=Tryz.func555.trans (congrArg some (by kernel_rfl))
 t0:=Tryz.underlying0
 a0:=Tryz.isAgg0
 z0:=Tryz.sizeOf0
 v0:=Tryz.zeroValue0
 t3:=Tryz.underlying3
 a3:=Tryz.isAgg3
 z3:=Tryz.sizeOf3
 v3:=Tryz.zeroValue3
 t4:=Tryz.underlying4
 a4:=Tryz.isAgg4
 z4:=Tryz.sizeOf4
 v4:=Tryz.zeroValue4
 t9:=Tryz.underlying9
 a9:=Tryz.isAgg9
 z9:=Tryz.sizeOf9
 v9:=Tryz.zeroValue9
 t20:=Tryz.underlying20
 a20:=Tryz.isAgg20
 z20:=Tryz.sizeOf20
 v20:=Tryz.zeroValue20
 t31:=Tryz.underlying81
 a31:=Tryz.isAgg81
 z31:=Tryz.sizeOf81
 v31:=Tryz.zeroValue81
 t37:=Tryz.underlying327
 a37:=Tryz.isAgg327
 z37:=Tryz.sizeOf327
 v37:=Tryz.zeroValue327
 t70:=Tryz.underlying326
 a70:=Tryz.isAgg326
 z70:=Tryz.sizeOf326
 v70:=Tryz.zeroValue326
 t72:=Tryz.underlying329
 a72:=Tryz.isAgg329
 z72:=Tryz.sizeOf329
 v72:=Tryz.zeroValue329
 t75:=Tryz.underlying299
 a75:=Tryz.isAgg299
 z75:=Tryz.sizeOf299
 v75:=Tryz.zeroValue299
 t76:=Tryz.underlying300
 a76:=Tryz.isAgg300
 z76:=Tryz.sizeOf300
 v76:=Tryz.zeroValue300
 t127:=Tryz.underlying432
 a127:=Tryz.isAgg432
 z127:=Tryz.sizeOf432
 v127:=Tryz.zeroValue432
 t164:=Tryz.underlying603
 a164:=Tryz.isAgg603
 z164:=Tryz.sizeOf603
 v164:=Tryz.zeroValue603 }
theorem Tryz.Builder_Extra_156:Builder.Extra Tryz.prog Tryz.lays156_ren:={
 sizeBuilder:=by kernel_rfl
 liesBuilder:=by kernel_rfl
 t5:=Tryz.underlying5
 a5:=Tryz.isAgg5
 z5:=Tryz.sizeOf5
 v5:=Tryz.zeroValue5
 infoByte:=by kernel_rfl
 cellsByte:=by kernel_rfl
 sizeByte:=by kernel_rfl
 neB5:=by decide }
open Go.RowKit in
theorem Tryz.strings_Join_none(a:Option Addr)(c:Nat)(sep:ByteArray)(w:World) :
  Calls Tryz.prog 376 #[.slice a 0 c,.string sep] w fun e w'=>e=.returned (.string ⟨#[]⟩)∧w'=w:=Any.strings_Join_none Tryz.lays156 Tryz.Builder_Extra_156 a c sep w
open Go.RowKit in
theorem Tryz.strings_Join(bk o c:Nat)(xs:List ByteArray)(sep:ByteArray)(w:World)(hcells:∀ (j:Nat) x,xs[j]?=some x→w.cell? ⟨bk,o+j,none⟩=some (.string x))(hbk:bk<w.heap.size)(hN:xs.length≤140737488355328)(hcap:xs.length≤c)(hlen:(Lib.join (xs.map (·.data.toList)) sep.data.toList).length≤140737488355328) :
  Calls Tryz.prog 376 #[.slice (some ⟨bk,o,none⟩) xs.length c,.string sep] w fun e w'=>e=.returned (.string ⟨(Lib.join (xs.map (·.data.toList)) sep.data.toList).toArray⟩)∧Below w.heap.size w w':=Any.strings_Join Tryz.lays156 Tryz.Builder_Extra_156 bk o c xs sep w hcells hbk hN hcap hlen
def Tryz.lays125_ren:Go.Shelf.Ren:=⟨fun | 125=>73 | 128=>142 | 129=>143 | n=>n,fun | 46=>147 | 3=>3 | 51=>240 | 53=>242 | 4=>4 | 5=>5 | 9=>9 | n=>n,fun | n=>n⟩
theorem Tryz.lays125:Go.Proofs.Lays.n125 Tryz.prog Tryz.lays125_ren:={
 mixed:=by kernel_rfl
 f125:=Tryz.func73.trans (congrArg some (by kernel_rfl))
 f128:=Tryz.func142.trans (congrArg some (by kernel_rfl))
 f129:=Tryz.func143.trans (congrArg some (by kernel_rfl))
 t3:=Tryz.underlying3
 a3:=Tryz.isAgg3
 z3:=Tryz.sizeOf3
 v3:=Tryz.zeroValue3
 t4:=Tryz.underlying4
 a4:=Tryz.isAgg4
 z4:=Tryz.sizeOf4
 v4:=Tryz.zeroValue4
 t5:=Tryz.underlying5
 a5:=Tryz.isAgg5
 z5:=Tryz.sizeOf5
 v5:=Tryz.zeroValue5
 t9:=Tryz.underlying9
 a9:=Tryz.isAgg9
 z9:=Tryz.sizeOf9
 v9:=Tryz.zeroValue9
 t46:=Tryz.underlying147
 a46:=Tryz.isAgg147
 z46:=Tryz.sizeOf147
 v46:=Tryz.zeroValue147
 t51:=Tryz.underlying240
 a51:=Tryz.isAgg240
 z51:=Tryz.sizeOf240
 v51:=Tryz.zeroValue240
 t53:=Tryz.underlying242
 a53:=Tryz.isAgg242
 z53:=Tryz.sizeOf242
 v53:=Tryz.zeroValue242 }
theorem Tryz.bits_Len(x:Int)(w:World)(h0:0≤x)(h1:x≤18446744073709551615) :
  Calls Tryz.prog 73 #[.int .u64 x] w fun e w'=>e=.returned (.int .i64 (Lib.bitLen x.toNat))∧w'=w:=Any.bits_Len Tryz.lays125 x w h0 h1
def Tryz.lays106_ren:Go.Shelf.Ren:=⟨fun | 106=>97 | 213=>187 | 265=>281 | n=>n,fun | 9=>9 | 3=>3 | n=>n,fun | n=>n⟩
theorem Tryz.lays106:Go.Proofs.Lays.n106 Tryz.prog Tryz.lays106_ren:={
 mixed:=by kernel_rfl
 f106:=Tryz.func97.trans (congrArg some (by kernel_rfl))
 f213:=Tryz.func187.trans (congrArg some (by kernel_rfl))
 f265:=Tryz.func281.trans (congrArg some (by kernel_rfl))
 t3:=Tryz.underlying3
 a3:=Tryz.isAgg3
 z3:=Tryz.sizeOf3
 v3:=Tryz.zeroValue3
 t9:=Tryz.underlying9
 a9:=Tryz.isAgg9
 z9:=Tryz.sizeOf9
 v9:=Tryz.zeroValue9 }
open Go.RowKit in
theorem Tryz.strings_Compare(a b:ByteArray)(w:World) :
  Calls Tryz.prog 97 #[.string a,.string b] w fun e w'=>e=.returned (.int .i64 (Lib.compareBytes a.data.toList b.data.toList))∧w'=w:=Any.strings_Compare Tryz.lays106 a b w
def Tryz.lays137_ren:Go.Shelf.Ren:=⟨fun | 137=>271 | 217=>293 | 266=>391 | n=>n,fun | 9=>9 | 5=>5 | 3=>3 | n=>n,fun | n=>n⟩
theorem Tryz.lays137:Go.Proofs.Lays.n137 Tryz.prog Tryz.lays137_ren:={
 mixed:=by kernel_rfl
 f137:=Tryz.func271.trans (congrArg some (by kernel_rfl))
 f217:=Tryz.func293.trans (congrArg some (by kernel_rfl))
 f266:=Tryz.func391.trans (congrArg some (by kernel_rfl))
 t3:=Tryz.underlying3
 a3:=Tryz.isAgg3
 z3:=Tryz.sizeOf3
 v3:=Tryz.zeroValue3
 t5:=Tryz.underlying5
 a5:=Tryz.isAgg5
 z5:=Tryz.sizeOf5
 v5:=Tryz.zeroValue5
 t9:=Tryz.underlying9
 a9:=Tryz.isAgg9
 z9:=Tryz.sizeOf9
 v9:=Tryz.zeroValue9 }
open Go.RowKit in
theorem Tryz.strings_IndexByte(s:ByteArray)(c:Int)(w:World) :
  Calls Tryz.prog 271 #[.string s,.int .u8 c] w fun e w'=>e=.returned (.int .i64 (Lib.indexByte s.data.toList c.toNat.toUInt8))∧w'=w:=Any.strings_IndexByte Tryz.lays137 s c w
def Tryz.laysM171_ren:Go.Shelf.Ren:=⟨fun | 171=>379 | 243=>462 | 246=>514 | 283=>556 | 284=>557 | 285=>558 | 286=>559 | 129=>143 | 317=>583 | 318=>584 | 319=>585 | 320=>586 | 337=>593 | 338=>594 | n=>n,fun | 3=>3 | 9=>9 | 2=>2 | 4=>4 | 171=>711 | 0=>0 | 53=>242 | 37=>327 | 5=>5 | 173=>713 | 212=>725 | 51=>240 | 20=>20 | 213=>726 | 46=>147 | 232=>733 | 233=>734 | n=>n,fun | 17=>5 | 18=>6 | 19=>7 | n=>n⟩
theorem Tryz.laysM171:Go.Proofs.LaysM.n171 Tryz.prog Tryz.laysM171_ren:={
 mixed:=by kernel_rfl
 f129:=Tryz.func143.trans (congrArg some (by kernel_rfl))
 f171:=Tryz.func379.trans (congrArg some (by kernel_rfl))
 f243:=Tryz.func462.trans (congrArg some (by kernel_rfl))
 f246:=Tryz.func514.trans (congrArg some (by kernel_rfl))
 f283:=Tryz.func556.trans (congrArg some (by kernel_rfl))
 f284:=Tryz.func557.trans (congrArg some (by kernel_rfl))
 f285:=Tryz.func558.trans (congrArg some (by kernel_rfl))
 f286:=Tryz.func559.trans (congrArg some (by kernel_rfl))
 f317:=Tryz.func583.trans (congrArg some (by kernel_rfl))
 f318:=Tryz.func584.trans (congrArg some (by kernel_rfl))
 f319:=Tryz.func585.trans (congrArg some (by kernel_rfl))
 f320:=Tryz.func586.trans (congrArg some (by kernel_rfl))
 f337:=Tryz.func593.trans (congrArg some (by kernel_rfl))
 f338:=Tryz.func594.trans (congrArg some (by kernel_rfl))
 t0:=Tryz.underlying0
 a0:=Tryz.isAgg0
 z0:=Tryz.sizeOf0
 v0:=Tryz.zeroValue0
 t2:=Tryz.underlying2
 a2:=Tryz.isAgg2
 z2:=Tryz.sizeOf2
 v2:=Tryz.zeroValue2
 t3:=Tryz.underlying3
 a3:=Tryz.isAgg3
 z3:=Tryz.sizeOf3
 v3:=Tryz.zeroValue3
 t4:=Tryz.underlying4
 a4:=Tryz.isAgg4
 z4:=Tryz.sizeOf4
 v4:=Tryz.zeroValue4
 t5:=Tryz.underlying5
 a5:=Tryz.isAgg5
 z5:=Tryz.sizeOf5
 v5:=Tryz.zeroValue5
 t9:=Tryz.underlying9
 a9:=Tryz.isAgg9
 z9:=Tryz.sizeOf9
 v9:=Tryz.zeroValue9
 t20:=Tryz.underlying20
 a20:=Tryz.isAgg20
 z20:=Tryz.sizeOf20
 v20:=Tryz.zeroValue20
 t37:=Tryz.underlying327
 a37:=Tryz.isAgg327
 z37:=Tryz.sizeOf327
 v37:=Tryz.zeroValue327
 t46:=Tryz.underlying147
 a46:=Tryz.isAgg147
 z46:=Tryz.sizeOf147
 v46:=Tryz.zeroValue147
 t51:=Tryz.underlying240
 a51:=Tryz.isAgg240
 z51:=Tryz.sizeOf240
 v51:=Tryz.zeroValue240
 t53:=Tryz.underlying242
 a53:=Tryz.isAgg242
 z53:=Tryz.sizeOf242
 v53:=Tryz.zeroValue242
 t171:=Tryz.underlying711
 a171:=Tryz.isAgg711
 z171:=Tryz.sizeOf711
 v171:=Tryz.zeroValue711
 t173:=Tryz.underlying713
 a173:=Tryz.isAgg713
 z173:=Tryz.sizeOf713
 v173:=Tryz.zeroValue713
 t212:=Tryz.underlying725
 a212:=Tryz.isAgg725
 z212:=Tryz.sizeOf725
 v212:=Tryz.zeroValue725
 t213:=Tryz.underlying726
 a213:=Tryz.isAgg726
 z213:=Tryz.sizeOf726
 t232:=Tryz.underlying733
 a232:=Tryz.isAgg733
 z232:=Tryz.sizeOf733
 v232:=Tryz.zeroValue733
 t233:=Tryz.underlying734
 a233:=Tryz.isAgg734
 z233:=Tryz.sizeOf734
 v233:=Tryz.zeroValue734
 g17:=by kernel_rfl
 g18:=by kernel_rfl
 g19:=by kernel_rfl
 i0:=by kernel_rfl
 i2:=by kernel_rfl
 i3:=by kernel_rfl
 i4:=by kernel_rfl
 i5:=by kernel_rfl
 i9:=by kernel_rfl
 i20:=by kernel_rfl
 i37:=by kernel_rfl
 i46:=by kernel_rfl
 i51:=by kernel_rfl
 i53:=by kernel_rfl
 i171:=by kernel_rfl
 i173:=by kernel_rfl
 i212:=by kernel_rfl
 i232:=by kernel_rfl
 i233:=by kernel_rfl
 m17:=by kernel_rfl
 m18:=by kernel_rfl
 m19:=by kernel_rfl }
open Go.RowKit Go.Sort Go.Lib in
theorem Tryz.strconv_Itoa(n:Int)(h0:-9223372036854775808≤n)(h1:n≤9223372036854775807)(w:World)(htab:Lib.TabIs Tryz.prog w "internal/strconv.uint64pow10" .u64 Lib.pow10Tab) :
  Calls Tryz.prog 379 #[.int .i64 n] w fun e w'=>e=.returned (.string ⟨(Lib.itoa n).toArray⟩)∧∃ k os,w'=grow (w.drewN k) os:=Any.strconv_Itoa Tryz.laysM171 n h0 h1 w htab
def Tryz.laysM316_ren:Go.Shelf.Ren:=⟨fun | 316=>282 | n=>n,fun | 9=>9 | 3=>3 | 4=>4 | 37=>327 | 0=>0 | 127=>432 | 5=>5 | n=>n,fun | n=>n⟩
theorem Tryz.laysM316:Go.Proofs.LaysM.n316 Tryz.prog Tryz.laysM316_ren:={
 mixed:=by kernel_rfl
 f316:=Tryz.func282.trans (congrArg some (by kernel_rfl))
 t0:=Tryz.underlying0
 a0:=Tryz.isAgg0
 z0:=Tryz.sizeOf0
 v0:=Tryz.zeroValue0
 t3:=Tryz.underlying3
 a3:=Tryz.isAgg3
 z3:=Tryz.sizeOf3
 v3:=Tryz.zeroValue3
 t4:=Tryz.underlying4
 a4:=Tryz.isAgg4
 z4:=Tryz.sizeOf4
 v4:=Tryz.zeroValue4
 t9:=Tryz.underlying9
 a9:=Tryz.isAgg9
 z9:=Tryz.sizeOf9
 v9:=Tryz.zeroValue9
 t37:=Tryz.underlying327
 a37:=Tryz.isAgg327
 z37:=Tryz.sizeOf327
 v37:=Tryz.zeroValue327
 t127:=Tryz.underlying432
 a127:=Tryz.isAgg432
 z127:=Tryz.sizeOf432
 v127:=Tryz.zeroValue432
 t5:=Tryz.underlying5
 a5:=Tryz.isAgg5
 z5:=Tryz.sizeOf5
 v5:=Tryz.zeroValue5
 i0:=by kernel_rfl
 i3:=by kernel_rfl
 i4:=by kernel_rfl
 i5:=by kernel_rfl
 i9:=by kernel_rfl
 i37:=by kernel_rfl
 i127:=by kernel_rfl }
open Go.RowKit in
theorem Tryz.stringslite_Clone(s:ByteArray)(w:World)(hlim:s.size≤281474976710656) :
  Calls Tryz.prog 282 #[.string s] w fun e w'=>e=.returned (.string s)∧Below w.heap.size w w':=Any.stringslite_Clone Tryz.laysM316 s w hlim
def Tryz.laysC172_ren:Go.Shelf.Ren:=⟨fun | 172=>175 | 244=>273 | 245=>274 | 247=>369 | 279=>370 | 280=>371 | 281=>372 | 282=>373 | 287=>457 | 316=>282 | 171=>379 | 205=>458 | 321=>511 | 322=>512 | 243=>462 | 246=>514 | 283=>556 | 284=>557 | 285=>558 | 286=>559 | 129=>143 | 317=>583 | 318=>584 | 319=>585 | 320=>586 | 337=>593 | 338=>594 | n=>n,fun | 9=>9 | 3=>3 | 75=>299 | 76=>300 | 4=>4 | 5=>5 | 167=>502 | 37=>327 | 0=>0 | 85=>503 | 2=>2 | 168=>505 | 53=>242 | 175=>594 | 46=>147 | 210=>597 | 127=>432 | 145=>661 | 143=>659 | 21=>21 | 171=>711 | 173=>713 | 212=>725 | 51=>240 | 20=>20 | 213=>726 | 232=>733 | 233=>734 | 80=>193 | n=>n,fun | 15=>1 | 16=>2 | 17=>5 | 18=>6 | 19=>7 | n=>n⟩
theorem Tryz.laysC172:Go.Proofs.LaysC.n172 Tryz.prog Tryz.laysC172_ren:={
 mixed:=by kernel_rfl
 f129:=Tryz.func143.trans (congrArg some (by kernel_rfl))
 f171:=Tryz.func379.trans (congrArg some (by kernel_rfl))
 f172:=Tryz.func175.trans (congrArg some (by kernel_rfl))
 f205:=Tryz.func458.trans (congrArg some (by kernel_rfl))
 f243:=Tryz.func462.trans (congrArg some (by kernel_rfl))
 f244:=Tryz.func273.trans (congrArg some (by kernel_rfl))
 f245:=Tryz.func274.trans (congrArg some (by kernel_rfl))
 f246:=Tryz.func514.trans (congrArg some (by kernel_rfl))
 f247:=Tryz.func369.trans (congrArg some (by kernel_rfl))
 f279:=Tryz.func370.trans (congrArg some (by kernel_rfl))
 f280:=Tryz.func371.trans (congrArg some (by kernel_rfl))
 f281:=Tryz.func372.trans (congrArg some (by kernel_rfl))
 f282:=Tryz.func373.trans (congrArg some (by kernel_rfl))
 f283:=Tryz.func556.trans (congrArg some (by kernel_rfl))
 f284:=Tryz.func557.trans (congrArg some (by kernel_rfl))
 f285:=Tryz.func558.trans (congrArg some (by kernel_rfl))
 f286:=Tryz.func559.trans (congrArg some (by kernel_rfl))
 f287:=Tryz.func457.trans (congrArg some (by kernel_rfl))
 f316:=Tryz.func282.trans (congrArg some (by kernel_rfl))
 f317:=Tryz.func583.trans (congrArg some (by kernel_rfl))
 f318:=Tryz.func584.trans (congrArg some (by kernel_rfl))
 f319:=Tryz.func585.trans (congrArg some (by kernel_rfl))
 f320:=Tryz.func586.trans (congrArg some (by kernel_rfl))
 f321:=Tryz.func511.trans (congrArg some (by kernel_rfl))
 f322:=Tryz.func512.trans (congrArg some (by kernel_rfl))
 f337:=Tryz.func593.trans (congrArg some (by kernel_rfl))
 f338:=Tryz.func594.trans (congrArg some (by kernel_rfl))
 t0:=Tryz.underlying0
 a0:=Tryz.isAgg0
 z0:=Tryz.sizeOf0
 v0:=Tryz.zeroValue0
 t2:=Tryz.underlying2
 a2:=Tryz.isAgg2
 z2:=Tryz.sizeOf2
 v2:=Tryz.zeroValue2
 t3:=Tryz.underlying3
 a3:=Tryz.isAgg3
 z3:=Tryz.sizeOf3
 v3:=Tryz.zeroValue3
 t4:=Tryz.underlying4
 a4:=Tryz.isAgg4
 z4:=Tryz.sizeOf4
 v4:=Tryz.zeroValue4
 t5:=Tryz.underlying5
 a5:=Tryz.isAgg5
 z5:=Tryz.sizeOf5
 v5:=Tryz.zeroValue5
 t9:=Tryz.underlying9
 a9:=Tryz.isAgg9
 z9:=Tryz.sizeOf9
 v9:=Tryz.zeroValue9
 t20:=Tryz.underlying20
 a20:=Tryz.isAgg20
 z20:=Tryz.sizeOf20
 v20:=Tryz.zeroValue20
 t21:=Tryz.underlying21
 a21:=Tryz.isAgg21
 z21:=Tryz.sizeOf21
 v21:=Tryz.zeroValue21
 t37:=Tryz.underlying327
 a37:=Tryz.isAgg327
 z37:=Tryz.sizeOf327
 v37:=Tryz.zeroValue327
 t46:=Tryz.underlying147
 a46:=Tryz.isAgg147
 z46:=Tryz.sizeOf147
 v46:=Tryz.zeroValue147
 t51:=Tryz.underlying240
 a51:=Tryz.isAgg240
 z51:=Tryz.sizeOf240
 v51:=Tryz.zeroValue240
 t53:=Tryz.underlying242
 a53:=Tryz.isAgg242
 z53:=Tryz.sizeOf242
 v53:=Tryz.zeroValue242
 t75:=Tryz.underlying299
 a75:=Tryz.isAgg299
 z75:=Tryz.sizeOf299
 v75:=Tryz.zeroValue299
 t76:=Tryz.underlying300
 a76:=Tryz.isAgg300
 z76:=Tryz.sizeOf300
 v76:=Tryz.zeroValue300
 t85:=Tryz.underlying503
 a85:=Tryz.isAgg503
 z85:=Tryz.sizeOf503
 v85:=Tryz.zeroValue503
 t127:=Tryz.underlying432
 a127:=Tryz.isAgg432
 z127:=Tryz.sizeOf432
 v127:=Tryz.zeroValue432
 t143:=Tryz.underlying659
 a143:=Tryz.isAgg659
 z143:=Tryz.sizeOf659
 v143:=Tryz.zeroValue659
 t145:=Tryz.underlying661
 a145:=Tryz.isAgg661
 z145:=Tryz.sizeOf661
 v145:=Tryz.zeroValue661
 t167:=Tryz.underlying502
 a167:=Tryz.isAgg502
 z167:=Tryz.sizeOf502
 v167:=Tryz.zeroValue502
 t168:=Tryz.underlying505
 a168:=Tryz.isAgg505
 z168:=Tryz.sizeOf505
 v168:=Tryz.zeroValue505
 t171:=Tryz.underlying711
 a171:=Tryz.isAgg711
 z171:=Tryz.sizeOf711
 v171:=Tryz.zeroValue711
 t173:=Tryz.underlying713
 a173:=Tryz.isAgg713
 z173:=Tryz.sizeOf713
 v173:=Tryz.zeroValue713
 t175:=Tryz.underlying594
 a175:=Tryz.isAgg594
 z175:=Tryz.sizeOf594
 v175:=Tryz.zeroValue594
 t210:=Tryz.underlying597
 a210:=Tryz.isAgg597
 z210:=Tryz.sizeOf597
 v210:=Tryz.zeroValue597
 t212:=Tryz.underlying725
 a212:=Tryz.isAgg725
 z212:=Tryz.sizeOf725
 v212:=Tryz.zeroValue725
 t213:=Tryz.underlying726
 a213:=Tryz.isAgg726
 z213:=Tryz.sizeOf726
 t232:=Tryz.underlying733
 a232:=Tryz.isAgg733
 z232:=Tryz.sizeOf733
 v232:=Tryz.zeroValue733
 t233:=Tryz.underlying734
 a233:=Tryz.isAgg734
 z233:=Tryz.sizeOf734
 v233:=Tryz.zeroValue734
 g15:=by kernel_rfl
 g16:=by kernel_rfl
 g17:=by kernel_rfl
 g18:=by kernel_rfl
 g19:=by kernel_rfl
 t80:=Tryz.underlying193
 a80:=Tryz.isAgg193
 z80:=Tryz.sizeOf193
 v80:=Tryz.zeroValue193
 i0:=by kernel_rfl
 i2:=by kernel_rfl
 i3:=by kernel_rfl
 i4:=by kernel_rfl
 i5:=by kernel_rfl
 i9:=by kernel_rfl
 i20:=by kernel_rfl
 i21:=by kernel_rfl
 i37:=by kernel_rfl
 i46:=by kernel_rfl
 i51:=by kernel_rfl
 i53:=by kernel_rfl
 i75:=by kernel_rfl
 i76:=by kernel_rfl
 i80:=by kernel_rfl
 i85:=by kernel_rfl
 i127:=by kernel_rfl
 i143:=by kernel_rfl
 i145:=by kernel_rfl
 i167:=by kernel_rfl
 i168:=by kernel_rfl
 i171:=by kernel_rfl
 i173:=by kernel_rfl
 i175:=by kernel_rfl
 i210:=by kernel_rfl
 i212:=by kernel_rfl
 i232:=by kernel_rfl
 i233:=by kernel_rfl
 m15:=by kernel_rfl
 m16:=by kernel_rfl
 m17:=by kernel_rfl
 m18:=by kernel_rfl
 m19:=by kernel_rfl
 c0:=by kernel_rfl
 c2:=by kernel_rfl
 c3:=by kernel_rfl
 c4:=by kernel_rfl
 c5:=by kernel_rfl
 c9:=by kernel_rfl
 c20:=by kernel_rfl
 c21:=by kernel_rfl
 c37:=by kernel_rfl
 c46:=by kernel_rfl
 c51:=by kernel_rfl
 c53:=by kernel_rfl
 c75:=by kernel_rfl
 c76:=by kernel_rfl
 c80:=by kernel_rfl
 c85:=by kernel_rfl
 c127:=by kernel_rfl
 c143:=by kernel_rfl
 c145:=by kernel_rfl
 c167:=by kernel_rfl
 c168:=by kernel_rfl
 c171:=by kernel_rfl
 c173:=by kernel_rfl
 c175:=by kernel_rfl
 c210:=by kernel_rfl
 c212:=by kernel_rfl
 c213:=by kernel_rfl
 c232:=by kernel_rfl
 c233:=by kernel_rfl }
open Go.RowKit in
theorem Tryz.strconv_Atoi_ok(s:ByteArray)(hmax:s.size≤9223372036854775806)(v:Int)(h:Lib.atoiAll s.data.toList=.ok v)(w:World) :
  Calls Tryz.prog 175 #[.string s] w fun e w'=>e=.returned (.tuple #[.int .i64 v,.nilIface])∧(w'=w∨∃ t,w'=Lib.bytesWorld w 5 t):=Any.strconv_Atoi_ok Tryz.laysC172 s hmax v h w
open Go.RowKit in
theorem Tryz.strconv_Atoi_syntax(s:ByteArray)(hlim:s.size≤281474976710656)(h:Lib.atoiAll s.data.toList=Lib.atoiAll [])(ev:Value)(w:World)(hv:w.cell? ⟨1,0,none⟩=some ev)(hev:ev=.nilIface∨∃ te pe,ev=.iface te pe) :
  Calls Tryz.prog 175 #[.string s] w fun e w'=>∃ N,e=.returned (.tuple #[.int .i64 (0),.iface 505 (.pointer (some ⟨N,0,none⟩))])∧w.heap.size≤N∧w'.heap[N]?=some (.cells #[.string ⟨#[65,116,111,105]⟩,.string s,ev] 597 (0,0))∧Below w.heap.size w w':=Any.strconv_Atoi_syntax Tryz.laysC172 s hlim h ev w hv hev
open Go.RowKit in
theorem Tryz.strconv_Atoi_range(s:ByteArray)(hlim:s.size≤281474976710656)(h:Lib.atoiAll s.data.toList=.range)(ev:Value)(w:World)(hv:w.cell? ⟨2,0,none⟩=some ev)(hev:ev=.nilIface∨∃ te pe,ev=.iface te pe) :
  Calls Tryz.prog 175 #[.string s] w fun e w'=>∃ N,e=.returned (.tuple #[.int .i64 (Lib.atoiSat s.data.toList),.iface 505 (.pointer (some ⟨N,0,none⟩))])∧w.heap.size≤N∧w'.heap[N]?=some (.cells #[.string ⟨#[65,116,111,105]⟩,.string s,ev] 597 (0,0))∧Below w.heap.size w w':=Any.strconv_Atoi_range Tryz.laysC172 s hlim h ev w hv hev
def Tryz.lays144_ren:Go.Shelf.Ren:=⟨fun | 144=>160 | 143=>116 | 219=>195 | 217=>293 | 225=>294 | 224=>295 | 267=>296 | 266=>391 | 314=>392 | n=>n,fun | 9=>9 | 4=>4 | 3=>3 | 5=>5 | 46=>147 | 146=>520 | 51=>240 | n=>n,fun | 1=>0 | n=>n⟩
theorem Tryz.lays144:Go.Proofs.Lays.n144 Tryz.prog Tryz.lays144_ren:={
 mixed:=by kernel_rfl
 f143:=Tryz.func116.trans (congrArg some (by kernel_rfl))
 f144:=Tryz.func160.trans (congrArg some (by kernel_rfl))
 f217:=Tryz.func293.trans (congrArg some (by kernel_rfl))
 f219:=Tryz.func195.trans (congrArg some (by kernel_rfl))
 f224:=Tryz.func295.trans (congrArg some (by kernel_rfl))
 f225:=Tryz.func294.trans (congrArg some (by kernel_rfl))
 f266:=Tryz.func391.trans (congrArg some (by kernel_rfl))
 f267:=Tryz.func296.trans (congrArg some (by kernel_rfl))
 f314:=Tryz.func392.trans (congrArg some (by kernel_rfl))
 t3:=Tryz.underlying3
 a3:=Tryz.isAgg3
 z3:=Tryz.sizeOf3
 v3:=Tryz.zeroValue3
 t4:=Tryz.underlying4
 a4:=Tryz.isAgg4
 z4:=Tryz.sizeOf4
 v4:=Tryz.zeroValue4
 t5:=Tryz.underlying5
 a5:=Tryz.isAgg5
 z5:=Tryz.sizeOf5
 v5:=Tryz.zeroValue5
 t9:=Tryz.underlying9
 a9:=Tryz.isAgg9
 z9:=Tryz.sizeOf9
 v9:=Tryz.zeroValue9
 t46:=Tryz.underlying147
 a46:=Tryz.isAgg147
 z46:=Tryz.sizeOf147
 v46:=Tryz.zeroValue147
 t51:=Tryz.underlying240
 a51:=Tryz.isAgg240
 z51:=Tryz.sizeOf240
 v51:=Tryz.zeroValue240
 t146:=Tryz.underlying520
 a146:=Tryz.isAgg520
 z146:=Tryz.sizeOf520
 v146:=Tryz.zeroValue520
 g1:=by kernel_rfl }
open Go.RowKit Go.Lib in
theorem Tryz.strings_Contains(s sub:ByteArray)(m:Int)(w:World)(hs:s.size<4294967281)(hm:w.cell? ⟨0,0,none⟩=some (.int .i64 m)) :
  Calls Tryz.prog 160 #[.string s,.string sub] w fun e w'=>e=.returned (.bool (Lib.contains s.data.toList sub.data.toList))∧w'=w:=Any.strings_Contains Tryz.lays144 s sub m w hs hm
def Tryz.lays145_ren:Go.Shelf.Ren:=⟨fun | 145=>174 | 220=>272 | 219=>195 | 217=>293 | 225=>294 | 224=>295 | 267=>296 | 266=>391 | 314=>392 | n=>n,fun | 9=>9 | 4=>4 | 59=>296 | 3=>3 | 5=>5 | 46=>147 | 146=>520 | 51=>240 | n=>n,fun | 1=>0 | n=>n⟩
theorem Tryz.lays145:Go.Proofs.Lays.n145 Tryz.prog Tryz.lays145_ren:={
 mixed:=by kernel_rfl
 f145:=Tryz.func174.trans (congrArg some (by kernel_rfl))
 f217:=Tryz.func293.trans (congrArg some (by kernel_rfl))
 f219:=Tryz.func195.trans (congrArg some (by kernel_rfl))
 f220:=Tryz.func272.trans (congrArg some (by kernel_rfl))
 f224:=Tryz.func295.trans (congrArg some (by kernel_rfl))
 f225:=Tryz.func294.trans (congrArg some (by kernel_rfl))
 f266:=Tryz.func391.trans (congrArg some (by kernel_rfl))
 f267:=Tryz.func296.trans (congrArg some (by kernel_rfl))
 f314:=Tryz.func392.trans (congrArg some (by kernel_rfl))
 t3:=Tryz.underlying3
 a3:=Tryz.isAgg3
 z3:=Tryz.sizeOf3
 v3:=Tryz.zeroValue3
 t4:=Tryz.underlying4
 a4:=Tryz.isAgg4
 z4:=Tryz.sizeOf4
 v4:=Tryz.zeroValue4
 t5:=Tryz.underlying5
 a5:=Tryz.isAgg5
 z5:=Tryz.sizeOf5
 v5:=Tryz.zeroValue5
 t9:=Tryz.underlying9
 a9:=Tryz.isAgg9
 z9:=Tryz.sizeOf9
 v9:=Tryz.zeroValue9
 t46:=Tryz.underlying147
 a46:=Tryz.isAgg147
 z46:=Tryz.sizeOf147
 v46:=Tryz.zeroValue147
 t51:=Tryz.underlying240
 a51:=Tryz.isAgg240
 z51:=Tryz.sizeOf240
 v51:=Tryz.zeroValue240
 t59:=Tryz.underlying296
 a59:=Tryz.isAgg296
 z59:=Tryz.sizeOf296
 v59:=Tryz.zeroValue296
 t146:=Tryz.underlying520
 a146:=Tryz.isAgg520
 z146:=Tryz.sizeOf520
 v146:=Tryz.zeroValue520
 g1:=by kernel_rfl }
open Go.RowKit Go.Lib in
theorem Tryz.strings_Cut(s sep:ByteArray)(m:Int)(w:World)(hs:s.size<4294967281)(hm:w.cell? ⟨0,0,none⟩=some (.int .i64 m)) :
  Calls Tryz.prog 174 #[.string s,.string sep] w fun e w'=>e=.returned (.tuple #[.string ⟨(Lib.cut s.data.toList sep.data.toList).1.toArray⟩,.string ⟨(Lib.cut s.data.toList sep.data.toList).2.1.toArray⟩,.bool (Lib.cut s.data.toList sep.data.toList).2.2])∧∃ n,w'=w.drewN n:=Any.strings_Cut Tryz.lays145 s sep m w hs hm
def Tryz.lays138_ren:Go.Shelf.Ren:=⟨fun | 138=>59 | 195=>114 | 218=>115 | 143=>116 | 219=>195 | 217=>293 | 225=>294 | 224=>295 | 267=>296 | 266=>391 | 314=>392 | n=>n,fun | 9=>9 | 3=>3 | 4=>4 | 5=>5 | 0=>0 | 46=>147 | 146=>520 | 51=>240 | n=>n,fun | 1=>0 | n=>n⟩
theorem Tryz.lays138:Go.Proofs.Lays.n138 Tryz.prog Tryz.lays138_ren:={
 mixed:=by kernel_rfl
 f138:=Tryz.func59.trans (congrArg some (by kernel_rfl))
 f143:=Tryz.func116.trans (congrArg some (by kernel_rfl))
 f195:=Tryz.func114.trans (congrArg some (by kernel_rfl))
 f217:=Tryz.func293.trans (congrArg some (by kernel_rfl))
 f218:=Tryz.func115.trans (congrArg some (by kernel_rfl))
 f219:=Tryz.func195.trans (congrArg some (by kernel_rfl))
 f224:=Tryz.func295.trans (congrArg some (by kernel_rfl))
 f225:=Tryz.func294.trans (congrArg some (by kernel_rfl))
 f266:=Tryz.func391.trans (congrArg some (by kernel_rfl))
 f267:=Tryz.func296.trans (congrArg some (by kernel_rfl))
 f314:=Tryz.func392.trans (congrArg some (by kernel_rfl))
 t0:=Tryz.underlying0
 a0:=Tryz.isAgg0
 z0:=Tryz.sizeOf0
 v0:=Tryz.zeroValue0
 t3:=Tryz.underlying3
 a3:=Tryz.isAgg3
 z3:=Tryz.sizeOf3
 v3:=Tryz.zeroValue3
 t4:=Tryz.underlying4
 a4:=Tryz.isAgg4
 z4:=Tryz.sizeOf4
 v4:=Tryz.zeroValue4
 t5:=Tryz.underlying5
 a5:=Tryz.isAgg5
 z5:=Tryz.sizeOf5
 v5:=Tryz.zeroValue5
 t9:=Tryz.underlying9
 a9:=Tryz.isAgg9
 z9:=Tryz.sizeOf9
 v9:=Tryz.zeroValue9
 t46:=Tryz.underlying147
 a46:=Tryz.isAgg147
 z46:=Tryz.sizeOf147
 v46:=Tryz.zeroValue147
 t51:=Tryz.underlying240
 a51:=Tryz.isAgg240
 z51:=Tryz.sizeOf240
 v51:=Tryz.zeroValue240
 t146:=Tryz.underlying520
 a146:=Tryz.isAgg520
 z146:=Tryz.sizeOf520
 v146:=Tryz.zeroValue520
 g1:=by kernel_rfl }
open Go.RowKit Go.Lib in
theorem Tryz.strings_Count_one(s:ByteArray)(c:UInt8)(w:World) :
  Calls Tryz.prog 59 #[.string s,.string ⟨#[c]⟩] w fun e w'=>e=.returned (.int .i64 (Lib.countByte s.data.toList c))∧w'=w:=Any.strings_Count_one Tryz.lays138 s c w
def Tryz.lays189_ren:Go.Shelf.Ren:=⟨fun | 189=>38 | 125=>73 | 257=>72 | 128=>142 | 129=>143 | 294=>133 | 295=>134 | 296=>135 | 297=>136 | 298=>137 | 299=>138 | 216=>139 | 300=>140 | 301=>141 | 328=>213 | 329=>214 | 330=>215 | 331=>216 | 332=>217 | 215=>96 | 343=>304 | n=>n,fun | 28=>41 | 3=>3 | 46=>147 | 0=>0 | 51=>240 | 53=>242 | 4=>4 | 183=>232 | 182=>231 | 131=>237 | 5=>5 | 9=>9 | 218=>345 | 222=>349 | 228=>436 | 229=>437 | n=>n,fun | n=>n⟩
theorem Tryz.lays189:Go.Proofs.Lays.n189 Tryz.prog Tryz.lays189_ren:={
 mixed:=by kernel_rfl
 f125:=Tryz.func73.trans (congrArg some (by kernel_rfl))
 f128:=Tryz.func142.trans (congrArg some (by kernel_rfl))
 f129:=Tryz.func143.trans (congrArg some (by kernel_rfl))
 f189:=Tryz.func38.trans (congrArg some (by kernel_rfl))
 f215:=Tryz.func96.trans (congrArg some (by kernel_rfl))
 f216:=Tryz.func139.trans (congrArg some (by kernel_rfl))
 f257:=Tryz.func72.trans (congrArg some (by kernel_rfl))
 f294:=Tryz.func133.trans (congrArg some (by kernel_rfl))
 f295:=Tryz.func134.trans (congrArg some (by kernel_rfl))
 f296:=Tryz.func135.trans (congrArg some (by kernel_rfl))
 f297:=Tryz.func136.trans (congrArg some (by kernel_rfl))
 f298:=Tryz.func137.trans (congrArg some (by kernel_rfl))
 f299:=Tryz.func138.trans (congrArg some (by kernel_rfl))
 f300:=Tryz.func140.trans (congrArg some (by kernel_rfl))
 f301:=Tryz.func141.trans (congrArg some (by kernel_rfl))
 f328:=Tryz.func213.trans (congrArg some (by kernel_rfl))
 f329:=Tryz.func214.trans (congrArg some (by kernel_rfl))
 f330:=Tryz.func215.trans (congrArg some (by kernel_rfl))
 f331:=Tryz.func216.trans (congrArg some (by kernel_rfl))
 f332:=Tryz.func217.trans (congrArg some (by kernel_rfl))
 f343:=Tryz.func304.trans (congrArg some (by kernel_rfl))
 t0:=Tryz.underlying0
 a0:=Tryz.isAgg0
 z0:=Tryz.sizeOf0
 v0:=Tryz.zeroValue0
 t3:=Tryz.underlying3
 a3:=Tryz.isAgg3
 z3:=Tryz.sizeOf3
 v3:=Tryz.zeroValue3
 t4:=Tryz.underlying4
 a4:=Tryz.isAgg4
 z4:=Tryz.sizeOf4
 v4:=Tryz.zeroValue4
 t5:=Tryz.underlying5
 a5:=Tryz.isAgg5
 z5:=Tryz.sizeOf5
 v5:=Tryz.zeroValue5
 t9:=Tryz.underlying9
 a9:=Tryz.isAgg9
 z9:=Tryz.sizeOf9
 v9:=Tryz.zeroValue9
 t28:=Tryz.underlying41
 a28:=Tryz.isAgg41
 z28:=Tryz.sizeOf41
 v28:=Tryz.zeroValue41
 t46:=Tryz.underlying147
 a46:=Tryz.isAgg147
 z46:=Tryz.sizeOf147
 v46:=Tryz.zeroValue147
 t51:=Tryz.underlying240
 a51:=Tryz.isAgg240
 z51:=Tryz.sizeOf240
 v51:=Tryz.zeroValue240
 t53:=Tryz.underlying242
 a53:=Tryz.isAgg242
 z53:=Tryz.sizeOf242
 v53:=Tryz.zeroValue242
 t131:=Tryz.underlying237
 a131:=Tryz.isAgg237
 z131:=Tryz.sizeOf237
 v131:=Tryz.zeroValue237
 t182:=Tryz.underlying231
 a182:=Tryz.isAgg231
 z182:=Tryz.sizeOf231
 v182:=Tryz.zeroValue231
 t183:=Tryz.underlying232
 a183:=Tryz.isAgg232
 z183:=Tryz.sizeOf232
 v183:=Tryz.zeroValue232
 t218:=Tryz.underlying345
 a218:=Tryz.isAgg345
 z218:=Tryz.sizeOf345
 v218:=Tryz.zeroValue345
 t222:=Tryz.underlying349
 a222:=Tryz.isAgg349
 z222:=Tryz.sizeOf349
 v222:=Tryz.zeroValue349
 t228:=Tryz.underlying436
 a228:=Tryz.isAgg436
 z228:=Tryz.sizeOf436
 v228:=Tryz.zeroValue436
 t229:=Tryz.underlying437
 a229:=Tryz.isAgg437
 z229:=Tryz.sizeOf437
 v229:=Tryz.zeroValue437 }
open Go.Sort Go.RowKit in
theorem Tryz.slices_Sort_int(blk off cap:Nat)(zs:List Int)(w:World)(hH:Holds (Value.int .i64) w blk off zs.toArray)(hblk:blk<w.heap.size)(hsz:zs.length<4611686018427387904) :
  Calls Tryz.prog 38 #[.slice (some ⟨blk,off,none⟩) zs.length cap] w fun e w'=>
   e=.returned (.tuple #[])∧∃ n os,w'=grow (putRow (Value.int .i64) (Sort.ahead w n) blk off (zs.mergeSort fun x y=>decide (x≤y)).toArray) os:=Any.slices_Sort_int Tryz.lays189 blk off cap zs w hH hblk hsz
def Tryz.lays206_ren:Go.Shelf.Ren:=⟨fun | 206=>308 | n=>n,fun | 9=>9 | 4=>4 | 3=>3 | n=>n,fun | n=>n⟩
theorem Tryz.lays206:Go.Proofs.Lays.n206 Tryz.prog Tryz.lays206_ren:={
 mixed:=by kernel_rfl
 f206:=Tryz.func308.trans (congrArg some (by kernel_rfl))
 t3:=Tryz.underlying3
 a3:=Tryz.isAgg3
 z3:=Tryz.sizeOf3
 v3:=Tryz.zeroValue3
 t4:=Tryz.underlying4
 a4:=Tryz.isAgg4
 z4:=Tryz.sizeOf4
 v4:=Tryz.zeroValue4
 t9:=Tryz.underlying9
 a9:=Tryz.isAgg9
 z9:=Tryz.sizeOf9
 v9:=Tryz.zeroValue9 }
open Go.RowKit Go.Lib in
theorem Tryz.stringslite_HasPrefix(s p:ByteArray)(w:World) :
  Calls Tryz.prog 308 #[.string s,.string p] w fun e w'=>e=.returned (.bool (Lib.hasPrefix s.data.toList p.data.toList))∧w'=w:=Any.stringslite_HasPrefix Tryz.lays206 s p w
def Tryz.lays146_ren:Go.Shelf.Ren:=⟨fun | 146=>128 | 221=>208 | 268=>302 | 138=>59 | 143=>116 | 195=>114 | 197=>402 | 218=>115 | 219=>195 | 260=>470 | 217=>293 | 225=>294 | 224=>295 | 267=>296 | 266=>391 | 314=>392 | n=>n,fun | 9=>9 | 31=>81 | 3=>3 | 4=>4 | 0=>0 | 105=>527 | 21=>21 | 5=>5 | 46=>147 | 119=>665 | 139=>668 | 138=>667 | 146=>520 | 51=>240 | n=>n,fun | 1=>0 | 3=>3 | 4=>4 | n=>n⟩
theorem Tryz.lays146:Go.Proofs.Lays.n146 Tryz.prog Tryz.lays146_ren:={
 mixed:=by kernel_rfl
 f138:=Tryz.func59.trans (congrArg some (by kernel_rfl))
 f143:=Tryz.func116.trans (congrArg some (by kernel_rfl))
 f146:=Tryz.func128.trans (congrArg some (by kernel_rfl))
 f195:=Tryz.func114.trans (congrArg some (by kernel_rfl))
 f197:=Tryz.func402.trans (congrArg some (by kernel_rfl))
 f217:=Tryz.func293.trans (congrArg some (by kernel_rfl))
 f218:=Tryz.func115.trans (congrArg some (by kernel_rfl))
 f219:=Tryz.func195.trans (congrArg some (by kernel_rfl))
 f221:=Tryz.func208.trans (congrArg some (by kernel_rfl))
 f224:=Tryz.func295.trans (congrArg some (by kernel_rfl))
 f225:=Tryz.func294.trans (congrArg some (by kernel_rfl))
 f260:=Tryz.func470.trans (congrArg some (by kernel_rfl))
 f266:=Tryz.func391.trans (congrArg some (by kernel_rfl))
 f267:=Tryz.func296.trans (congrArg some (by kernel_rfl))
 f268:=Tryz.func302.trans (congrArg some (by kernel_rfl))
 f314:=Tryz.func392.trans (congrArg some (by kernel_rfl))
 t0:=Tryz.underlying0
 a0:=Tryz.isAgg0
 z0:=Tryz.sizeOf0
 v0:=Tryz.zeroValue0
 t3:=Tryz.underlying3
 a3:=Tryz.isAgg3
 z3:=Tryz.sizeOf3
 v3:=Tryz.zeroValue3
 t4:=Tryz.underlying4
 a4:=Tryz.isAgg4
 z4:=Tryz.sizeOf4
 v4:=Tryz.zeroValue4
 t5:=Tryz.underlying5
 a5:=Tryz.isAgg5
 z5:=Tryz.sizeOf5
 v5:=Tryz.zeroValue5
 t9:=Tryz.underlying9
 a9:=Tryz.isAgg9
 z9:=Tryz.sizeOf9
 v9:=Tryz.zeroValue9
 t21:=Tryz.underlying21
 a21:=Tryz.isAgg21
 z21:=Tryz.sizeOf21
 v21:=Tryz.zeroValue21
 t31:=Tryz.underlying81
 a31:=Tryz.isAgg81
 z31:=Tryz.sizeOf81
 v31:=Tryz.zeroValue81
 t46:=Tryz.underlying147
 a46:=Tryz.isAgg147
 z46:=Tryz.sizeOf147
 v46:=Tryz.zeroValue147
 t51:=Tryz.underlying240
 a51:=Tryz.isAgg240
 z51:=Tryz.sizeOf240
 v51:=Tryz.zeroValue240
 t105:=Tryz.underlying527
 a105:=Tryz.isAgg527
 z105:=Tryz.sizeOf527
 v105:=Tryz.zeroValue527
 t119:=Tryz.underlying665
 a119:=Tryz.isAgg665
 z119:=Tryz.sizeOf665
 t138:=Tryz.underlying667
 a138:=Tryz.isAgg667
 z138:=Tryz.sizeOf667
 v138:=Tryz.zeroValue667
 t139:=Tryz.underlying668
 a139:=Tryz.isAgg668
 z139:=Tryz.sizeOf668
 v139:=Tryz.zeroValue668
 t146:=Tryz.underlying520
 a146:=Tryz.isAgg520
 z146:=Tryz.sizeOf520
 v146:=Tryz.zeroValue520
 g1:=by kernel_rfl
 g3:=by kernel_rfl
 g4:=by kernel_rfl }
open Go.RowKit Go.Lib in
theorem Tryz.strings_Split(s sep:ByteArray)(m:Int)(w:World)(hs:s.size<4294967281)(hm:w.cell? ⟨0,0,none⟩=some (.int .i64 m))(h1:1≤sep.size) :
  Calls Tryz.prog 128 #[.string s,.string sep] w fun e w'=>
   e=.returned (.slice (some ⟨w.heap.size,0,none⟩) (Lib.countB s sep+1) (Lib.countB s sep+1))∧w'=w.alloc (.cells ((Lib.splitB sep 0 (Lib.countB s sep) s).map Value.string).toArray 9):=Any.strings_Split Tryz.lays146 (by kernel_rfl) s sep m w hs hm h1
def Tryz.laysNm237_ren:Go.Shelf.Ren:=⟨fun | 37=>96 | n=>n,fun | 3=>3 | 4=>4 | n=>n,fun | n=>n⟩
theorem Tryz.laysNm237:Go.Proofs.Lays2.n37 Tryz.prog Tryz.laysNm237_ren:={
 mixed:=by kernel_rfl
 f37:=Tryz.func96.trans (congrArg some (by kernel_rfl))
 t3:=Tryz.underlying3
 a3:=Tryz.isAgg3
 z3:=Tryz.sizeOf3
 v3:=Tryz.zeroValue3
 t4:=Tryz.underlying4
 a4:=Tryz.isAgg4
 z4:=Tryz.sizeOf4
 v4:=Tryz.zeroValue4 }
open Go.RowKit Go.Lib in
theorem Tryz.cmp_isNaN_int2(x:Int)(w:World) :
  Calls Tryz.prog 96 #[.int .i64 x] w fun e w'=>e=.returned (.bool false)∧w'=w:=Any.cmp_isNaN_int2 Tryz.laysNm237 x w
open Go.RowKit Go.Sort in
theorem Tryz.slices_Sort_int_none(p:Option Addr)(cap:Nat)(w:World) :
  Calls Tryz.prog 38 #[.slice p 0 cap] w fun e w'=>e=.returned (.tuple #[])∧w'=w:=Any.slices_Sort_int_none Tryz.lays189 p cap w
def Tryz.pdqFile_ren:Go.Shelf.Ren:=⟨fun | 14=>319 | 20=>415 | 21=>416 | 22=>417 | 23=>418 | 24=>419 | 25=>420 | 26=>421 | 27=>422 | 46=>477 | 47=>214 | 48=>215 | 49=>478 | 50=>479 | 15=>73 | 57=>524 | 28=>142 | 29=>143 | n=>n,fun | 24=>94 | 22=>79 | 3=>3 | 25=>362 | 4=>4 | 0=>0 | 46=>232 | 45=>231 | 50=>237 | 66=>345 | 39=>147 | 55=>242 | 70=>349 | 76=>436 | 77=>437 | 53=>240 | 5=>5 | 9=>9 | n=>n,fun | n=>n⟩
theorem Tryz.pdqFile:Go.Proofs.SlLaysF0.n14 Tryz.prog Tryz.pdqFile_ren:={
 mixed:=by kernel_rfl
 f14:=⟨Tryz.f319.name,by decide,Tryz.func319.trans (congrArg some (by kernel_rfl))⟩
 f15:=Tryz.func73.trans (congrArg some (by kernel_rfl))
 f20:=⟨Tryz.f415.name,by decide,Tryz.func415.trans (congrArg some (by kernel_rfl))⟩
 f21:=⟨Tryz.f416.name,by decide,Tryz.func416.trans (congrArg some (by kernel_rfl))⟩
 f22:=⟨Tryz.f417.name,by decide,Tryz.func417.trans (congrArg some (by kernel_rfl))⟩
 f23:=⟨Tryz.f418.name,by decide,Tryz.func418.trans (congrArg some (by kernel_rfl))⟩
 f24:=⟨Tryz.f419.name,by decide,Tryz.func419.trans (congrArg some (by kernel_rfl))⟩
 f25:=⟨Tryz.f420.name,by decide,Tryz.func420.trans (congrArg some (by kernel_rfl))⟩
 f26:=⟨Tryz.f421.name,by decide,Tryz.func421.trans (congrArg some (by kernel_rfl))⟩
 f27:=⟨Tryz.f422.name,by decide,Tryz.func422.trans (congrArg some (by kernel_rfl))⟩
 f28:=Tryz.func142.trans (congrArg some (by kernel_rfl))
 f29:=Tryz.func143.trans (congrArg some (by kernel_rfl))
 f46:=⟨Tryz.f477.name,by decide,Tryz.func477.trans (congrArg some (by kernel_rfl))⟩
 f47:=Tryz.func214.trans (congrArg some (by kernel_rfl))
 f48:=Tryz.func215.trans (congrArg some (by kernel_rfl))
 f49:=⟨Tryz.f478.name,by decide,Tryz.func478.trans (congrArg some (by kernel_rfl))⟩
 f50:=⟨Tryz.f479.name,by decide,Tryz.func479.trans (congrArg some (by kernel_rfl))⟩
 f57:=⟨Tryz.f524.name,by decide,Tryz.func524.trans (congrArg some (by kernel_rfl))⟩
 t0:=Tryz.underlying0
 a0:=Tryz.isAgg0
 z0:=Tryz.sizeOf0
 v0:=Tryz.zeroValue0
 t3:=Tryz.underlying3
 a3:=Tryz.isAgg3
 z3:=Tryz.sizeOf3
 v3:=Tryz.zeroValue3
 t4:=Tryz.underlying4
 a4:=Tryz.isAgg4
 z4:=Tryz.sizeOf4
 v4:=Tryz.zeroValue4
 t5:=Tryz.underlying5
 a5:=Tryz.isAgg5
 z5:=Tryz.sizeOf5
 v5:=Tryz.zeroValue5
 t9:=Tryz.underlying9
 a9:=Tryz.isAgg9
 z9:=Tryz.sizeOf9
 v9:=Tryz.zeroValue9
 t22:=Tryz.underlying79
 a22:=Tryz.isAgg79
 z22:=Tryz.sizeOf79
 v22:=Tryz.zeroValue79
 t25:=Tryz.underlying362
 a25:=Tryz.isAgg362
 z25:=Tryz.sizeOf362
 v25:=Tryz.zeroValue362
 t39:=Tryz.underlying147
 a39:=Tryz.isAgg147
 z39:=Tryz.sizeOf147
 v39:=Tryz.zeroValue147
 t45:=Tryz.underlying231
 a45:=Tryz.isAgg231
 z45:=Tryz.sizeOf231
 v45:=Tryz.zeroValue231
 t46:=Tryz.underlying232
 a46:=Tryz.isAgg232
 z46:=Tryz.sizeOf232
 v46:=Tryz.zeroValue232
 t50:=Tryz.underlying237
 a50:=Tryz.isAgg237
 z50:=Tryz.sizeOf237
 v50:=Tryz.zeroValue237
 t53:=Tryz.underlying240
 a53:=Tryz.isAgg240
 z53:=Tryz.sizeOf240
 v53:=Tryz.zeroValue240
 t55:=Tryz.underlying242
 a55:=Tryz.isAgg242
 z55:=Tryz.sizeOf242
 v55:=Tryz.zeroValue242
 t66:=Tryz.underlying345
 a66:=Tryz.isAgg345
 z66:=Tryz.sizeOf345
 v66:=Tryz.zeroValue345
 t70:=Tryz.underlying349
 a70:=Tryz.isAgg349
 z70:=Tryz.sizeOf349
 v70:=Tryz.zeroValue349
 t76:=Tryz.underlying436
 a76:=Tryz.isAgg436
 z76:=Tryz.sizeOf436
 v76:=Tryz.zeroValue436
 t77:=Tryz.underlying437
 a77:=Tryz.isAgg437
 z77:=Tryz.sizeOf437
 v77:=Tryz.zeroValue437 }
def Tryz.sortSpan_ren:Go.Shelf.Ren:=⟨fun | 6=>204 | 15=>73 | 14=>301 | 28=>142 | 29=>143 | 20=>394 | 21=>395 | 22=>396 | 23=>397 | 24=>398 | 25=>399 | 26=>400 | 27=>401 | 46=>467 | 47=>214 | 48=>215 | 49=>468 | 50=>469 | 57=>517 | n=>n,fun | 22=>22 | 24=>39 | 25=>338 | 3=>3 | 39=>147 | 0=>0 | 53=>240 | 55=>242 | 4=>4 | 46=>232 | 45=>231 | 50=>237 | 5=>5 | 9=>9 | 66=>345 | 70=>349 | 76=>436 | 77=>437 | n=>n,fun | n=>n⟩
theorem Tryz.sortSpan:Go.Proofs.SlLaysF0.n6 Tryz.prog Tryz.sortSpan_ren:={
 mixed:=by kernel_rfl
 f6:=⟨Tryz.f204.name,by decide,Tryz.func204.trans (congrArg some (by kernel_rfl))⟩
 f14:=⟨Tryz.f301.name,by decide,Tryz.func301.trans (congrArg some (by kernel_rfl))⟩
 f15:=Tryz.func73.trans (congrArg some (by kernel_rfl))
 f20:=⟨Tryz.f394.name,by decide,Tryz.func394.trans (congrArg some (by kernel_rfl))⟩
 f21:=⟨Tryz.f395.name,by decide,Tryz.func395.trans (congrArg some (by kernel_rfl))⟩
 f22:=⟨Tryz.f396.name,by decide,Tryz.func396.trans (congrArg some (by kernel_rfl))⟩
 f23:=⟨Tryz.f397.name,by decide,Tryz.func397.trans (congrArg some (by kernel_rfl))⟩
 f24:=⟨Tryz.f398.name,by decide,Tryz.func398.trans (congrArg some (by kernel_rfl))⟩
 f25:=⟨Tryz.f399.name,by decide,Tryz.func399.trans (congrArg some (by kernel_rfl))⟩
 f26:=⟨Tryz.f400.name,by decide,Tryz.func400.trans (congrArg some (by kernel_rfl))⟩
 f27:=⟨Tryz.f401.name,by decide,Tryz.func401.trans (congrArg some (by kernel_rfl))⟩
 f28:=Tryz.func142.trans (congrArg some (by kernel_rfl))
 f29:=Tryz.func143.trans (congrArg some (by kernel_rfl))
 f46:=⟨Tryz.f467.name,by decide,Tryz.func467.trans (congrArg some (by kernel_rfl))⟩
 f47:=Tryz.func214.trans (congrArg some (by kernel_rfl))
 f48:=Tryz.func215.trans (congrArg some (by kernel_rfl))
 f49:=⟨Tryz.f468.name,by decide,Tryz.func468.trans (congrArg some (by kernel_rfl))⟩
 f50:=⟨Tryz.f469.name,by decide,Tryz.func469.trans (congrArg some (by kernel_rfl))⟩
 f57:=⟨Tryz.f517.name,by decide,Tryz.func517.trans (congrArg some (by kernel_rfl))⟩
 t0:=Tryz.underlying0
 a0:=Tryz.isAgg0
 z0:=Tryz.sizeOf0
 v0:=Tryz.zeroValue0
 t3:=Tryz.underlying3
 a3:=Tryz.isAgg3
 z3:=Tryz.sizeOf3
 v3:=Tryz.zeroValue3
 t4:=Tryz.underlying4
 a4:=Tryz.isAgg4
 z4:=Tryz.sizeOf4
 v4:=Tryz.zeroValue4
 t5:=Tryz.underlying5
 a5:=Tryz.isAgg5
 z5:=Tryz.sizeOf5
 v5:=Tryz.zeroValue5
 t9:=Tryz.underlying9
 a9:=Tryz.isAgg9
 z9:=Tryz.sizeOf9
 v9:=Tryz.zeroValue9
 t22:=Tryz.underlying22
 a22:=Tryz.isAgg22
 z22:=Tryz.sizeOf22
 v22:=Tryz.zeroValue22
 t25:=Tryz.underlying338
 a25:=Tryz.isAgg338
 z25:=Tryz.sizeOf338
 v25:=Tryz.zeroValue338
 t39:=Tryz.underlying147
 a39:=Tryz.isAgg147
 z39:=Tryz.sizeOf147
 v39:=Tryz.zeroValue147
 t45:=Tryz.underlying231
 a45:=Tryz.isAgg231
 z45:=Tryz.sizeOf231
 v45:=Tryz.zeroValue231
 t46:=Tryz.underlying232
 a46:=Tryz.isAgg232
 z46:=Tryz.sizeOf232
 v46:=Tryz.zeroValue232
 t50:=Tryz.underlying237
 a50:=Tryz.isAgg237
 z50:=Tryz.sizeOf237
 v50:=Tryz.zeroValue237
 t53:=Tryz.underlying240
 a53:=Tryz.isAgg240
 z53:=Tryz.sizeOf240
 v53:=Tryz.zeroValue240
 t55:=Tryz.underlying242
 a55:=Tryz.isAgg242
 z55:=Tryz.sizeOf242
 v55:=Tryz.zeroValue242
 t66:=Tryz.underlying345
 a66:=Tryz.isAgg345
 z66:=Tryz.sizeOf345
 v66:=Tryz.zeroValue345
 t70:=Tryz.underlying349
 a70:=Tryz.isAgg349
 z70:=Tryz.sizeOf349
 v70:=Tryz.zeroValue349
 t76:=Tryz.underlying436
 a76:=Tryz.isAgg436
 z76:=Tryz.sizeOf436
 v76:=Tryz.zeroValue436
 t77:=Tryz.underlying437
 a77:=Tryz.isAgg437
 z77:=Tryz.sizeOf437
 v77:=Tryz.zeroValue437 }
def Tryz.grow237_ren:Go.Shelf.Ren:=⟨fun | 4=>237 | n=>n,fun | 22=>81 | 25=>9 | 3=>3 | 4=>4 | 9=>9 | 20=>20 | 0=>0 | n=>n,fun | n=>n⟩
theorem Tryz.grow237:Go.Proofs.Lays8.n4 Tryz.prog Tryz.grow237_ren:={
 mixed:=by kernel_rfl
 f4:=⟨Tryz.f237.name,by decide,Tryz.func237.trans (congrArg some (by kernel_rfl))⟩
 t0:=Tryz.underlying0
 a0:=Tryz.isAgg0
 z0:=Tryz.sizeOf0
 v0:=Tryz.zeroValue0
 t3:=Tryz.underlying3
 a3:=Tryz.isAgg3
 z3:=Tryz.sizeOf3
 v3:=Tryz.zeroValue3
 t4:=Tryz.underlying4
 a4:=Tryz.isAgg4
 z4:=Tryz.sizeOf4
 v4:=Tryz.zeroValue4
 t9:=Tryz.underlying9
 a9:=Tryz.isAgg9
 z9:=Tryz.sizeOf9
 v9:=Tryz.zeroValue9
 t20:=Tryz.underlying20
 a20:=Tryz.isAgg20
 z20:=Tryz.sizeOf20
 v20:=Tryz.zeroValue20
 t22:=Tryz.underlying81
 a22:=Tryz.isAgg81
 z22:=Tryz.sizeOf81
 v22:=Tryz.zeroValue81 }
def Tryz.grow206_ren:Go.Shelf.Ren:=⟨fun | 4=>206 | n=>n,fun | 22=>23 | 25=>39 | 3=>3 | 4=>4 | 9=>9 | 20=>20 | 0=>0 | n=>n,fun | n=>n⟩
theorem Tryz.grow206:Go.Proofs.Lays8.n4 Tryz.prog Tryz.grow206_ren:={
 mixed:=by kernel_rfl
 f4:=⟨Tryz.f206.name,by decide,Tryz.func206.trans (congrArg some (by kernel_rfl))⟩
 t0:=Tryz.underlying0
 a0:=Tryz.isAgg0
 z0:=Tryz.sizeOf0
 v0:=Tryz.zeroValue0
 t3:=Tryz.underlying3
 a3:=Tryz.isAgg3
 z3:=Tryz.sizeOf3
 v3:=Tryz.zeroValue3
 t4:=Tryz.underlying4
 a4:=Tryz.isAgg4
 z4:=Tryz.sizeOf4
 v4:=Tryz.zeroValue4
 t9:=Tryz.underlying9
 a9:=Tryz.isAgg9
 z9:=Tryz.sizeOf9
 v9:=Tryz.zeroValue9
 t20:=Tryz.underlying20
 a20:=Tryz.isAgg20
 z20:=Tryz.sizeOf20
 v20:=Tryz.zeroValue20
 t22:=Tryz.underlying23
 a22:=Tryz.isAgg23
 z22:=Tryz.sizeOf23
 v22:=Tryz.zeroValue23 }
def Tryz.grow178_ren:Go.Shelf.Ren:=⟨fun | 4=>178 | n=>n,fun | 22=>64 | 25=>60 | 3=>3 | 4=>4 | 9=>9 | 20=>20 | 0=>0 | n=>n,fun | n=>n⟩
theorem Tryz.grow178:Go.Proofs.Lays8.n4 Tryz.prog Tryz.grow178_ren:={
 mixed:=by kernel_rfl
 f4:=⟨Tryz.f178.name,by decide,Tryz.func178.trans (congrArg some (by kernel_rfl))⟩
 t0:=Tryz.underlying0
 a0:=Tryz.isAgg0
 z0:=Tryz.sizeOf0
 v0:=Tryz.zeroValue0
 t3:=Tryz.underlying3
 a3:=Tryz.isAgg3
 z3:=Tryz.sizeOf3
 v3:=Tryz.zeroValue3
 t4:=Tryz.underlying4
 a4:=Tryz.isAgg4
 z4:=Tryz.sizeOf4
 v4:=Tryz.zeroValue4
 t9:=Tryz.underlying9
 a9:=Tryz.isAgg9
 z9:=Tryz.sizeOf9
 v9:=Tryz.zeroValue9
 t20:=Tryz.underlying20
 a20:=Tryz.isAgg20
 z20:=Tryz.sizeOf20
 v20:=Tryz.zeroValue20
 t22:=Tryz.underlying64
 a22:=Tryz.isAgg64
 z22:=Tryz.sizeOf64
 v22:=Tryz.zeroValue64 }
end Go.Proofs
