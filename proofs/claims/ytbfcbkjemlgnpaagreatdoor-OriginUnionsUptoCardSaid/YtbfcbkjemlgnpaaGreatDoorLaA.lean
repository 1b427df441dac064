/- The types are laid out as the model lays them: a part. -/
import Derived.Test.YtbfcbkjemlgnpaaGreatDoorChecked
import Derived.Test.YtbfcbkjemlgnpaaGreatDoorRows
import Derived.JoinedCond
import Derived.SevenTiedAt
import GoSem.ClaimFollow
import Derived.KernelRfl
namespace Go.Proofs.YtbfcbkjemlgnpaaGreatDoor
open Go
set_option maxRecDepth 100000
theorem types0:(List.range' 0 90).all (rowFine Tryz.prog)=true:=by kernel_rfl
theorem types90:(List.range' 90 90).all (rowFine Tryz.prog)=true:=by kernel_rfl
theorem types180:(List.range' 180 90).all (rowFine Tryz.prog)=true:=by kernel_rfl
end Go.Proofs.YtbfcbkjemlgnpaaGreatDoor
