/- No function of the program starts a go -/
import Derived.Test.YtpefhfiehfkocaaGreatDoorChecked
import Derived.Test.YtpefhfiehfkocaaGreatDoorRows
import Derived.SevenTiedAt
namespace Go.Proofs.YtpefhfiehfkocaaGreatDoor
section
open Go
theorem yL5{P:Program}{f:FuncId}(h:P.funcs.any Func.goes=false):P.goes f=false:=by
 unfold Program.goes;rw[h,Bool.and_false,Bool.or_false,List.any_eq_false];intro g _;cases b:P.funcs[g]? with
 |none=>simp|some d=>
  obtain⟨c,a⟩:=Array.getElem?_eq_some_iff.1 b;have:=Array.any_eq_false.1 h g c;rw[a]at this;simpa using this
theorem yL4{c:OpenClaim}{P:Program}(start:c.start=.entering)(h:P.funcs.any Func.goes=false):false=c.goesBy P:=by
 unfold OpenClaim.goesBy Program.goesAt Program.goesFrom;rw[start];cases P.funcNamed c.func with
 |none=>rfl|some f=>simp[yL5 h]
set_option maxRecDepth 100000 in theorem xa9:Tryz.prog.funcs.any Func.goes=false:=by kernel_rfl
end
end Go.Proofs.YtpefhfiehfkocaaGreatDoor
