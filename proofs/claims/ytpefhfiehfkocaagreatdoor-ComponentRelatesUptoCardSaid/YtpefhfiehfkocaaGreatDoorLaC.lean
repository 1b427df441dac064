/- The types are laid out as the model lays them: a part. -/
import Derived.Test.YtpefhfiehfkocaaGreatDoorChecked
import Derived.Test.YtpefhfiehfkocaaGreatDoorRows
import Derived.JoinedCond
import Derived.SevenTiedAt
import GoSem.ClaimFollow
import Derived.KernelRfl
namespace Go.Proofs.YtpefhfiehfkocaaGreatDoor
open Go
set_option maxRecDepth 100000
theorem types528:(List.range' 528 88).all (rowFine Tryz.prog)=true:=by kernel_rfl
theorem types616:(List.range' 616 88).all (rowFine Tryz.prog)=true:=by kernel_rfl
theorem types704:(List.range' 704 87).all (rowFine Tryz.prog)=true:=by kernel_rfl
end Go.Proofs.YtpefhfiehfkocaaGreatDoor
