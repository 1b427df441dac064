/- The types are laid out as the model la -/
import Derived.Test.YtpefhfiehfkocaaGreatDoorChecked
import Derived.Test.YtpefhfiehfkocaaGreatDoorRows
import Derived.JoinedCond
import Derived.SevenTiedAt
namespace Go.Proofs.YtpefhfiehfkocaaGreatDoor
section
open Go
set_option maxRecDepth 100000
theorem xA4:(List.range' 264 88).all (rowFine Tryz.prog)=true:=by kernel_rfl
theorem xA5:(List.range' 352 88).all (rowFine Tryz.prog)=true:=by kernel_rfl
theorem xA6:(List.range' 440 88).all (rowFine Tryz.prog)=true:=by kernel_rfl
end
end Go.Proofs.YtpefhfiehfkocaaGreatDoor
