/- The ties of the rows -/
import Derived.Test.YtpefhfiehfkocaaGreatDoorTieN
import Derived.Test.YtpefhfiehfkocaaGreatDoorTieR
namespace Go.Proofs.YtpefhfiehfkocaaGreatDoor
section
open Go
set_option maxRecDepth 100000
theorem tw1:Tryz.prog.worded (varsWordLater true)=true:=by kernel_rfl
theorem tw2:Tryz.prog.worded (varsWordLater !true)=false:=by kernel_rfl
theorem tw3:Tryz.prog.worded rootWordLater=true:=by kernel_rfl
theorem tk0:Tryz.prog.kindOfLater "unicode/utf8.acceptRanges"=some .data:=by kernel_rfl
theorem tk1:Tryz.prog.kindOfLater "strconv.ErrSyntax"=some .sentinel:=by kernel_rfl
theorem tk2:Tryz.prog.kindOfLater "strconv.ErrRange"=some .sentinel:=by kernel_rfl
theorem tk3:Tryz.prog.kindOfLater "internal/strconv.uint64pow10"=some .data:=by kernel_rfl
theorem tk4:Tryz.prog.kindOfLater "math/bits.deBruijn32tab"=some .data:=by kernel_rfl
theorem tk5:Tryz.prog.kindOfLater "math/bits.deBruijn64tab"=some .data:=by kernel_rfl
theorem tg:(Tryz.prog.funcNamed "gosem.cut.vars").isSome=true:=by kernel_rfl
theorem tie:Tryz.prog.laidByTextLater [("unicode/utf8.acceptRanges",Rows.laid_unicode_utf8_acceptRanges),("strconv.ErrSyntax",Rows.laid_strconv_ErrSyntax),("strconv.ErrRange",Rows.laid_strconv_ErrRange),("internal/strconv.uint64pow10",Rows.laid_internal_strconv_uint64pow10),("math/bits.deBruijn32tab",Rows.laid_math_bits_deBruijn32tab),("math/bits.deBruijn64tab",Rows.laid_math_bits_deBruijn64tab)] [.data,.sentinel,.sentinel,.data,.data,.data] true:=Program.laidByTextLater_by_one 72 8 65 tw1 tw2 tw3 (by simp only[List.map_cons,List.map_nil,tk0,tk1,tk2,tk3,tk4,tk5]) tg tn tr
theorem xj1:Tryz.pinned.checked.prog.pinnedFits "unicode/utf8.first"=true:=by kernel_rfl
theorem xb0:Tryz.pinned.checked.prog.headLifts.contains "ownunsafe"=false:=by kernel_rfl
theorem yJ5:Tryz.pinned.checked.prog.listedFits [("unicode/utf8.first",Rows.laid_unicode_utf8_first),("unicode/utf8.acceptRanges",Rows.laid_unicode_utf8_acceptRanges),("strconv.ErrSyntax",Rows.laid_strconv_ErrSyntax),("strconv.ErrRange",Rows.laid_strconv_ErrRange),("internal/strconv.uint64pow10",Rows.laid_internal_strconv_uint64pow10),("math/bits.deBruijn32tab",Rows.laid_math_bits_deBruijn32tab),("math/bits.deBruijn64tab",Rows.laid_math_bits_deBruijn64tab)]=true:=by
 unfold Program.listedFits;rw[xb0];kernel_rfl
theorem yy7:Rows.componentCopiesUptoRow.laidByTextAt .later Tryz.pinned [.pinned,.data,.sentinel,.sentinel,.data,.data,.data] true:=OpenClaim.laidByTextAt_pinned rfl rfl tie rfl rfl rfl rfl (fun y a _e=>by
 simp only[Rows.componentCopiesUptoRow,List.zip_cons_cons,List.zip_nil_right,List.mem_cons,List.mem_nil_iff,or_false]at a;rcases a with rfl|rfl|rfl|rfl|rfl|rfl|rfl;·exact⟨xj1,by kernel_rfl⟩
 ·cases _e
 ·cases _e
 ·cases _e
 ·cases _e
 ·cases _e
 ·cases _e) yJ5
end
end Go.Proofs.YtpefhfiehfkocaaGreatDoor
