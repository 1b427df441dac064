/- The types are laid out as the model lays them: a part. -/
import Derived.Test.YtbfcbkjemlgnpaaGreatDoorChecked
import Derived.Test.YtbfcbkjemlgnpaaGreatDoorRows
import Derived.JoinedCond
import Derived.SevenTiedAt
import GoSem.ClaimFollow
import Derived.KernelRfl
namespace Go.Proofs.YtbfcbkjemlgnpaaGreatDoor
open Go
set_option maxRecDepth 100000
theorem types540:(List.range' 540 70).all (rowFine Tryz.prog)=true:=by kernel_rfl
theorem types610:(List.range' 610 70).all (rowFine Tryz.prog)=true:=by kernel_rfl
theorem types680:(List.range' 680 67).all (rowFine Tryz.prog)=true:=by kernel_rfl
end Go.Proofs.YtbfcbkjemlgnpaaGreatDoor
