/- What the rows lay of package-level var -/
import Derived.Test.YtpefhfiehfkocaaGreatDoorRows
import Derived.SevenTiedAt
import Derived.LaidOnce
namespace Go.Proofs.YtpefhfiehfkocaaGreatDoor
section
open Go
set_option maxRecDepth 100000
theorem tn:varsNamedLaterB Tryz.prog (varsId Tryz.prog) [("unicode/utf8.acceptRanges",Rows.laid_unicode_utf8_acceptRanges),("strconv.ErrSyntax",Rows.laid_strconv_ErrSyntax),("strconv.ErrRange",Rows.laid_strconv_ErrRange),("internal/strconv.uint64pow10",Rows.laid_internal_strconv_uint64pow10),("math/bits.deBruijn32tab",Rows.laid_math_bits_deBruijn32tab),("math/bits.deBruijn64tab",Rows.laid_math_bits_deBruijn64tab)]=true:=by kernel_rfl
end
end Go.Proofs.YtpefhfiehfkocaaGreatDoor
