/- The types are laid out as the model la -/
import Derived.Test.YtpefhfiehfkocaaGreatDoorChecked
import Derived.Test.YtpefhfiehfkocaaGreatDoorRows
import Derived.JoinedCond
import Derived.SevenTiedAt
namespace Go.Proofs.YtpefhfiehfkocaaGreatDoor
section
open Go
set_option maxRecDepth 100000
theorem xA2:(List.range' 0 88).all (rowFine Tryz.prog)=true:=by kernel_rfl
theorem xB0:(List.range' 88 88).all (rowFine Tryz.prog)=true:=by kernel_rfl
theorem xA3:(List.range' 176 88).all (rowFine Tryz.prog)=true:=by kernel_rfl
end
end Go.Proofs.YtpefhfiehfkocaaGreatDoor
