/- The types are laid out as the model lays them: a part. -/
import Derived.Test.YtpefhfiehfkocaaGreatDoorChecked
import Derived.Test.YtpefhfiehfkocaaGreatDoorRows
import Derived.JoinedCond
import Derived.SevenTiedAt
import GoSem.ClaimFollow
import Derived.KernelRfl
namespace Go.Proofs.YtpefhfiehfkocaaGreatDoor
open Go
set_option maxRecDepth 100000
theorem types0:(List.range' 0 88).all (rowFine Tryz.prog)=true:=by kernel_rfl
theorem types88:(List.range' 88 88).all (rowFine Tryz.prog)=true:=by kernel_rfl
theorem types176:(List.range' 176 88).all (rowFine Tryz.prog)=true:=by kernel_rfl
end Go.Proofs.YtpefhfiehfkocaaGreatDoor
