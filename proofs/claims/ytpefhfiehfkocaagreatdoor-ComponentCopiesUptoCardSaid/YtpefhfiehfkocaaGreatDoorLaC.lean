/- The types are laid out as the model la -/
import Derived.Test.YtpefhfiehfkocaaGreatDoorChecked
import Derived.Test.YtpefhfiehfkocaaGreatDoorRows
import Derived.JoinedCond
import Derived.SevenTiedAt
namespace Go.Proofs.YtpefhfiehfkocaaGreatDoor
section
open Go
set_option maxRecDepth 100000
theorem xA7:(List.range' 528 88).all (rowFine Tryz.prog)=true:=by kernel_rfl
theorem xA8:(List.range' 616 88).all (rowFine Tryz.prog)=true:=by kernel_rfl
theorem xA9:(List.range' 704 87).all (rowFine Tryz.prog)=true:=by kernel_rfl
end
end Go.Proofs.YtpefhfiehfkocaaGreatDoor
