/- The types are laid out as the model lays them: a part. -/
import Derived.Test.YtpefhfiehfkocaaGreatDoorChecked
import Derived.Test.YtpefhfiehfkocaaGreatDoorRows
import Derived.JoinedCond
import Derived.SevenTiedAt
import GoSem.ClaimFollow
import Derived.KernelRfl
namespace Go.Proofs.YtpefhfiehfkocaaGreatDoor
open Go
set_option maxRecDepth 100000
theorem types264:(List.range' 264 88).all (rowFine Tryz.prog)=true:=by kernel_rfl
theorem types352:(List.range' 352 88).all (rowFine Tryz.prog)=true:=by kernel_rfl
theorem types440:(List.range' 440 88).all (rowFine Tryz.prog)=true:=by kernel_rfl
end Go.Proofs.YtpefhfiehfkocaaGreatDoor
