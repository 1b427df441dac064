/- No function of the program starts a goroutine. -/
import Derived.Test.YtpefhfiehfkocaaGreatDoorChecked
import Derived.Test.YtpefhfiehfkocaaGreatDoorRows
import Derived.SevenTiedAt
import Derived.KernelRfl
namespace Go.Proofs.YtpefhfiehfkocaaGreatDoor
open Go
theorem goes_false{P:Program}{f:FuncId}(h:P.funcs.any Func.goes=false):P.goes f=false:=by
  unfold Program.goes;rw [h,Bool.and_false,Bool.or_false,List.any_eq_false];intro g _;cases hg:P.funcs[g]? with
  | none=>simp
  | some fn=>
    obtain ⟨hl,he⟩:=Array.getElem?_eq_some_iff.1 hg;have:=Array.any_eq_false.1 h g hl;rw [he]at this;simpa using this
theorem goesBy_false{c:OpenClaim}{P:Program}(start:c.start=.entering)(h:P.funcs.any Func.goes=false):false=c.goesBy P:=by
  unfold OpenClaim.goesBy Program.goesAt Program.goesFrom;rw [start];cases P.funcNamed c.func with
  | none=>rfl
  | some f=>simp [goes_false h]
set_option maxRecDepth 100000 in
theorem noGo:Tryz.prog.funcs.any Func.goes=false:=by kernel_rfl
end Go.Proofs.YtpefhfiehfkocaaGreatDoor
